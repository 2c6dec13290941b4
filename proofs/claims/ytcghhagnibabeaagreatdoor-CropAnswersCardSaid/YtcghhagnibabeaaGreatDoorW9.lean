/-
  THE WALK over the reference's Join.
-/
import Derived.Test.YtcghhagnibabeaaGreatDoorW8
namespace Go.Proofs.YtcghhagnibabeaaGreatDoor
open Go.RowKit

/-- Lines as lists of bytes. -/
def lb (LL : List (List ByteArray)) : List (List (List UInt8)) := LL.map fun ws => ws.map (·.data.toList)

def JoinGive (LL : List (List ByteArray)) (w : World) (e : Ending) (w' : World) : Prop :=
  e = .returned (.tuple #[.string ⟨(Wo.jOut (lb LL)).toArray⟩, .int .i64 (Wo.jErr (lb LL))]) ∧ Below w.heap.size w w'

theorem ret_si {a b : ByteArray} {c d : Int} (h : a = b) (k : c = d) : Ending.returned (.tuple #[.string a, .int .i64 c]) = .returned (.tuple #[.string b, .int .i64 d]) := by rw [h, k]

theorem join_bad {LL : List (List ByteArray)} {er : Int} (h : Wo.jErr (lb LL) = er) (hne : er ≠ 0) (w w' : World) (hb : Below w.heap.size w w') : JoinGive LL w (.returned (.tuple #[.string ⟨#[]⟩, .int .i64 er])) w' :=
  ⟨ret_si (by unfold Wo.jOut; rw [if_neg (by rw [h]; exact hne)]) h.symm, hb⟩

theorem lb_len (LL : List (List ByteArray)) : (lb LL).length = LL.length := by unfold lb; rw [List.length_map]
theorem lb_take (LL : List (List ByteArray)) (k : Nat) : lb (LL.take k) = (lb LL).take k := by unfold lb; rw [List.map_take]
theorem lb_snoc (LL : List (List ByteArray)) (k : Nat) (h : k < LL.length) : lb (LL.take (k + 1)) = lb (LL.take k) ++ [LL[k].map (·.data.toList)] := by
  unfold lb; rw [List.take_succ_eq_append_getElem h, List.map_append]; rfl

theorem jText_take (LL : List (List (List UInt8))) (k : Nat) : (Wo.jText (LL.take k)).length ≤ (Wo.jText LL).length := by
  conv => rhs; rw [← List.take_append_drop k LL]
  unfold Wo.jText
  rw [List.flatMap_append, List.length_append]
  omega

/-- A word that is none spoils all. -/
theorem jErr_bad {LL : List (List ByteArray)} (h4 : LL.length ≤ 400) {ws : List ByteArray} (hw : ws ∈ LL) {y : ByteArray} (hy : y ∈ ws) (h : Wo.wordB y.data.toList = false) : Wo.jErr (lb LL) = 4 := by
  unfold Wo.jErr
  rw [if_neg (by rw [lb_len]; omega), if_pos]
  rw [Bool.eq_false_iff]
  intro ha
  rw [List.all_eq_true] at ha
  have h1 := ha (ws.map (·.data.toList)) (by unfold lb; exact List.mem_map.2 ⟨ws, hw, rfl⟩)
  rw [List.all_eq_true] at h1
  have h2 := h1 y.data.toList (List.mem_map.2 ⟨y, hy, rfl⟩)
  rw [h] at h2
  cases h2

theorem jErr_long {LL : List (List ByteArray)} (h : 400 < LL.length) : Wo.jErr (lb LL) = 1 := by unfold Wo.jErr; rw [if_pos (by rw [lb_len]; exact h)]

def okB (c : UInt8) : Bool := decide (33 ≤ (c.toNat : Int)) && decide ((c.toNat : Int) ≤ 126) && !(c == 35)

theorem wordB_eq (l : List UInt8) : Wo.wordB l = (!l.isEmpty && l.all okB) := rfl

theorem ok_kinds (c : UInt8) : ((c.toNat : Int) < 33 ∧ okB c = false) ∨ (126 < (c.toNat : Int) ∧ okB c = false) ∨ (33 ≤ (c.toNat : Int) ∧ (c.toNat : Int) ≤ 126 ∧ ((c.toNat : Int) == 35) = true ∧ okB c = false) ∨ (33 ≤ (c.toNat : Int) ∧ (c.toNat : Int) ≤ 126 ∧ ((c.toNat : Int) == 35) = false ∧ okB c = true) := by
  have e : (c == 35) = decide ((c.toNat : Int) = 35) := by
    rw [Bool.eq_iff_iff, beq_iff_eq, decide_eq_true_eq]
    constructor
    · rintro rfl; rfl
    · intro h; exact UInt8.toNat_inj.1 (by rw [show c.toNat = 35 by omega]; rfl)
  simp only [okB, e, Bool.and_eq_true, Bool.and_eq_false_iff, Bool.not_eq_true', Bool.not_eq_false', decide_eq_true_eq, decide_eq_false_iff_not, beq_iff_eq, beq_eq_false_iff_ne]
  omega

def JnGive (ws : List ByteArray) (w : World) (e : Ending) (w' : World) : Prop := e = .returned (.string ⟨(Lib.join (ws.map (·.data.toList)) [32]).toArray⟩) ∧ Below w.heap.size w w'

theorem join32_any (q : Option Addr) (ws : List ByteArray) (c : Nat) (w : World) (h : Recs SB w q ws) (hc : ws.length ≤ c) (hl : (Lib.join (ws.map (·.data.toList)) [32]).length ≤ 140737488355328) (hn : ws.length ≤ 140737488355328) :
    Calls Tryz.prog 44 #[.slice q ws.length c, .string ⟨#[32]⟩] w (JnGive ws w) := by
  rcases h.2 with e | ⟨b, off, rfl, hb, hcell⟩
  · subst e
    exact (Tryz.strings_Join_none q c ⟨#[32]⟩ w).mono fun e w' ⟨he, hw⟩ => ⟨he, hw ▸ Below.refl _ _⟩
  · exact (Tryz.strings_Join b off c ws ⟨#[32]⟩ w (fun j x hx => hcell j _ (by rw [flat_str, List.getElem?_map, hx]; rfl)) hb hn hc hl).mono fun e w' ⟨he, hw⟩ => ⟨he, hw⟩


end Go.Proofs.YtcghhagnibabeaaGreatDoor
