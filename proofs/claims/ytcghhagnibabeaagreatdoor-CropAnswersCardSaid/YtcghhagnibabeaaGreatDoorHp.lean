/-
  SMALL HELPERS of the walks: a region that draws its order, all of whose operations but a forced tail read or call quietly; endings; cells of new blocks.
-/
import Derived.Test.YtcghhagnibabeaaGreatDoorRows
import Derived.WalkKit
import Derived.WalkSpells
import Derived.WalkLawsBesides
import Derived.Lib.Hide
import Derived.Handy
import Derived.StillTailTactics
import Derived.Deep.QuietTactic
import Derived.BigQuiet
namespace Go.Proofs.YtcghhagnibabeaaGreatDoor
open Go.RowKit

theorem wp_tail {P : Program} {id : Nat} {Q : Exit → Act → World → Prop} {a : Act} {w : World} {l : List Oper} (n : Nat) (hm : P.follows .mixedOrders = true) (hB : Region.lexTailB .any l.toArray n = true)
    (h : wpStill P l.toArray w.drew (fun a' => wpList P l.toArray Q (l.drop n) a' w.drew) (l.take n) a) : (Code.region id l.toArray true).wp P Q a w := wp_region_still_tail n hm hB h

/-- A contract of a callee that only computes, in the order in which 'still_call' wants it. -/
theorem Calls.turn {P : Program} {f : FuncId} {args : Array Value} {w : World} {v : Value} (h : Calls P f args w fun e w' => e = .returned v ∧ w = w') : Calls P f args w fun e w' => e = .returned v ∧ w' = w :=
  h.mono fun _ _ h => ⟨h.1, h.2.symm⟩

theorem Calls.same {P : Program} {f : FuncId} {args : Array Value} {w : World} {v : Value} (h : Calls P f args w fun e w' => e = .returned v ∧ w' = w) : Calls P f args w fun e w' => e = .returned v ∧ w = w' :=
  h.mono fun _ _ h => ⟨h.1, h.2.symm⟩

theorem ret_int {k : IntKind} {a b : Int} (h : a = b) : Ending.returned (.int k a) = .returned (.int k b) := by rw [h]
theorem ret_bool {a b : Bool} (h : a = b) : Ending.returned (.bool a) = .returned (.bool b) := by rw [h]

theorem drewN_below (w : World) (n : Nat) : Below w.heap.size w (w.drewN n) := ⟨rfl, rfl, rfl, Nat.le_refl _, fun _ _ => rfl⟩

theorem bnext {B : Nat} {w W w' : World} (h : Below B w W) (hB : B ≤ W.heap.size) (k : Below W.heap.size W w') : Below B w w' := h.trans (k.mono hB)

theorem bdrew {w w1 : World} (h : Below w.drew.heap.size w.drew w1) : Below w.heap.size w w1 := ⟨h.os, h.tape, h.output, h.size, h.block⟩

theorem cell_other {w : World} {a b : Addr} {v u : Value} (h : w.cell? b = some u) (hne : a.block ≠ b.block) : (w.setCell a v).cell? b = some u :=
  (World.cell?_setCell_other _ _ _ _ (fun e => hne (congrArg Addr.block e))).trans h

theorem drewN_two (w : World) (a b : Nat) : (w.drewN a).drewN b = w.drewN (a + b) := by simp [World.drewN, Nat.add_assoc]

end Go.Proofs.YtcghhagnibabeaaGreatDoor
