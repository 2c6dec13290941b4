/-
  WHAT the library asks of its package-level variables, in which world it stands.
-/
import Derived.Test.YtcghhagnibabeaaGreatDoorRows
import Derived.Test.YtcghhagnibabeaaGreatDoorKp
import Derived.Lib.ItoaMem
namespace Go.Proofs.YtcghhagnibabeaaGreatDoor
open Go.RowKit

theorem g_pow : Tryz.prog.globalNamed "internal/strconv.uint64pow10" = some 3 := by kernel_rfl
theorem g_syn : Tryz.prog.globalNamed "strconv.ErrSyntax" = some 4 := by kernel_rfl
theorem g_rng : Tryz.prog.globalNamed "strconv.ErrRange" = some 5 := by kernel_rfl

structure Env (w : World) : Prop where
  pow : Lib.TabIs Tryz.prog w "internal/strconv.uint64pow10" .u64 Lib.pow10Tab
  ml : ∃ m, w.cell? ⟨0, 0, none⟩ = some (.int .i64 m)
  syn : ∃ tp p, w.var? Tryz.prog "strconv.ErrSyntax" = some #[.iface tp p]
  rng : ∃ tp p, w.var? Tryz.prog "strconv.ErrRange" = some #[.iface tp p]

theorem var_lt {w : World} {n : String} {g : Nat} {cs : Array Value} (hg : Tryz.prog.globalNamed n = some g) (h : w.var? Tryz.prog n = some cs) : g < w.heap.size := by
  simp only [World.var?, hg, Option.bind_some] at h
  cases e : w.heap[g]? with
  | none => rw [e] at h; cases h
  | some o => exact (Array.getElem?_eq_some_iff.1 e).1

theorem var_same {w w' : World} {n : String} {g : Nat} {cs : Array Value} (hg : Tryz.prog.globalNamed n = some g) (h : w.var? Tryz.prog n = some cs) (e : w'.heap[g]? = w.heap[g]?) : w'.var? Tryz.prog n = some cs := by
  simp only [World.var?, hg, Option.bind_some] at h ⊢
  rw [e]
  exact h

theorem Env.blocks {w w' : World} (h : Env w) (e : ∀ g, g ≤ 16 → g < w.heap.size → w'.heap[g]? = w.heap[g]?) : Env w' := by
  obtain ⟨m, hm⟩ := h.ml
  obtain ⟨t1, p1, h1⟩ := h.syn
  obtain ⟨t2, p2, h2⟩ := h.rng
  have h0 := h.pow
  exact ⟨var_same g_pow h0 (e _ (by decide) (var_lt g_pow h0)), ⟨m, by rw [World.cell?_of_block (w := w) (e _ (by decide) (World.block_lt_of_cell? w _ hm))]; exact hm⟩,
    ⟨t1, p1, var_same g_syn h1 (e _ (by decide) (var_lt g_syn h1))⟩, ⟨t2, p2, var_same g_rng h2 (e _ (by decide) (var_lt g_rng h2))⟩⟩

theorem Env.below {w w' : World} (h : Env w) (hb : Below w.heap.size w w') : Env w' := h.blocks fun g _ hl => hb.block g hl

theorem Env.belowB {w w' : World} {B : Nat} (h : Env w) (hb : Below B w w') (hB : 16 < B) : Env w' := h.blocks fun g hg _ => hb.block g (by omega)

theorem Env.drew {w : World} (h : Env w) : Env w.drew := h.blocks fun _ _ _ => rfl

theorem Env.but {w w' : World} {t : Nat} (h : Env w) (hb : But t w w') (ht : 16 < t) : Env w' := h.blocks fun g hg hl => hb.block g hl (by omega)

theorem bst {w w1 w2 : World} {B : Nat} (hB : B ≤ w.heap.size) (h : Below B w w1) (hb : Below w1.heap.size w1 w2) : Below B w w2 := h.trans (hb.mono (Nat.le_trans hB h.size))
theorem bal {w w1 : World} {B : Nat} (hB : B ≤ w.heap.size) (h : Below B w w1) (o : Obj) : Below B w (w1.alloc o) := h.alloc (Nat.le_trans hB h.size) o

end Go.Proofs.YtcghhagnibabeaaGreatDoor
