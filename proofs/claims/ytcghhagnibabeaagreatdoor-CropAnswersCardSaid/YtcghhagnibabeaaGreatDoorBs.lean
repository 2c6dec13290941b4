/-
  Steps of worlds.
-/
import Derived.Test.YtcghhagnibabeaaGreatDoorHp
namespace Go.Proofs.YtcghhagnibabeaaGreatDoor
open Go.RowKit

theorem bdrew' {B : Nat} {w w1 : World} (h : Below B w.drew w1) : Below B w w1 := ⟨h.os, h.tape, h.output, h.size, h.block⟩

theorem bstep {B : Nat} {w w1 w2 : World} (hs : B ≤ w.heap.size) (h : Below B w w1) (h2 : Below w1.heap.size w1 w2) : Below B w w2 := bnext h (Nat.le_trans hs h.size) h2

theorem balloc {B : Nat} {w w1 : World} (hs : B ≤ w.heap.size) (h : Below B w w1) (o : Obj) : Below B w (w1.alloc o) := h.alloc (Nat.le_trans hs h.size) o

end Go.Proofs.YtcghhagnibabeaaGreatDoor
