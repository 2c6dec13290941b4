/-
  A CALL of a Go function as one step of a region that draws its order (for go_region_law).
-/
import Derived.Test.YtflcdkibjakciaaGreatDoorM28
import Derived.Test.YtflcdkibjakciaaGreatDoorT42
import Derived.Shelf.Abstract
namespace Go.Proofs.YtflcdkibjakciaaGreatDoor
open Go.RowKit Go.Shelf

theorem stepCall {P : Program} {ops : Array Oper} {o : Oper} {a : Act} {w : World} {K : Act → World → Prop} {Q : Exit → Act → World → Prop} {E : Prop} (hgd : o.guard = none) (f : FuncId) (xs : Array Operand) (ts : Array TypeId) (args : Array Value)
    (ho : o.op = .call { callee := .value (.func f), args := xs, argTypes := ts }) (he : ∀ args w, (callFunc f args).run P w = .ok (.enter f args) w) (ha : xs.map a.eval = args) {R : Ending → World → Prop} (hc : Calls P f args w R)
    (h : ∀ e w', R e w' → ∃ v, e = .returned v ∧ K (a.put o.dst v) w') : if Region.wanted o (yielded ops a.tmps) = true then Oper.wp P o a w K Q else E := by
  have hw : Region.wanted o (yielded ops a.tmps) = true := by simp [Region.wanted, hgd]
  rw [if_pos hw]
  have hrun : (execOp a.eval o).run P w = .ok (.enter f args) w := by
    subst ha
    simp [execOp, ho, resolve, invoke, Act.eval, Deferred.ofValue, he]
  unfold Oper.wp
  rw [hrun, Oper.upon_enter]
  refine hc.mono fun e w' hR => ?_
  obtain ⟨v, rfl, k⟩ := h e w' hR
  exact k

end Go.Proofs.YtflcdkibjakciaaGreatDoor
