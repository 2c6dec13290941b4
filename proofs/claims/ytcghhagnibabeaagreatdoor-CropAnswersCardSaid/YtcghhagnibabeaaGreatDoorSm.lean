/-
  THE CALLER's LAW: a range over strings.Lines' iterator, whatever the body.
-/
import Derived.Test.YtcghhagnibabeaaGreatDoorSl
namespace Go.Proofs.YtcghhagnibabeaaGreatDoor
open Go.RowKit Go.Shelf
attribute [local go_sem] Oper.semAt_some

/-- The rest of a text behind its first o + 1 bytes. -/
def restOf (t : ByteArray) (o : Nat) : ByteArray := t.extract (o + 1) t.size

/-- What a round's body leaves: it goes on; t is left. -/
def lineQ (b : Nat) (I : ByteArray → World → Prop) (t : ByteArray) (W : World) : Exit → Act → World → Prop
  | .normal, _, W' => KeepsOthers W W' ∧ I t W' ∧ W'.cell? ⟨b, 0, none⟩ = some (.string t) ∧ W'.frozen? ⟨b, 0, none⟩ = false
  | _, _, _ => False

theorem lines_enters : ∀ args w, (callFunc 89 args).run Tryz.prog w = .ok (.enter 89 args) w :=
  enters_of Tryz.func89 (by kernel_rfl) rfl

theorem wpIn_lines {n : Nat} {g : Operand} {ps : Array Tmp} {assign body : Code} {Q : Exit → Act → World → Prop} {a : Act} {w : World} (hn : 2 ≤ n) (b : Nat) (s : ByteArray)
    (hg : a.eval g = .func (.func 89) #[] #[.pointer (some ⟨b, 0, none⟩)]) (hps : ps.size = 1) (hb : b < w.heap.size) (hc : w.cell? ⟨b, 0, none⟩ = some (.string s)) (hf : w.frozen? ⟨b, 0, none⟩ = false)
    (I : ByteArray → World → Prop) (hI : OwnFrom w.heap.size I) (hD : ∀ t W, I t W → I t W.drew) (hS : ∀ t W v, I t W → I t (W.setCell ⟨b, 0, none⟩ v))
    (hL : ∀ t W, I t W → t.size ≤ 16384 ∧ (t.data.toList = [] ∨ t.data.toList.getLast? = some 10)) (h0 : I s w) (a₁ : ByteArray → Act)
    (hassign : ∀ (l : Nat) (x : ByteArray) (W : World) (K : Act → World → Prop), K (a₁ x) W →
      assign.wpIn (Fence.wide.inRound l) (n - 1 - 1) Tryz.prog (Exit.then K (fun _ _ _ => False)) { tmps := (ps.zip #[Value.string x]).foldl (fun t (p, v) => t.setIfInBounds p v) a.tmps, defers := [] } W)
    (hbody : ∀ (l : Nat) (t : ByteArray) (o : Nat) (W : World), I t W → Lib.indexByte t.data.toList 10 = ((o : Nat) : Int) → o < t.size → W.cell? ⟨b, 0, none⟩ = some (.string (restOf t o)) → W.frozen? ⟨b, 0, none⟩ = false →
      body.wpIn (Fence.wide.inRound l) (n - 1 - 1) Tryz.prog (lineQ b I (restOf t o) W) (a₁ (t.extract 0 (o + 1))) W)
    (hdone : ∀ (D : Nat) (t : ByteArray) (W : World), w.heap.size ≤ D → t.data.toList = [] → I t W → W.heap[D]? = some (.deferred (some [])) → Q .normal { a with defers := { target := .collected D, args := #[] } :: a.defers } W) :
    (Code.rangeFunc g ps assign body).wpIn Fence.wide n Tryz.prog Q a w := by
  refine wpIn_rangeFunc ?_
  intro fn hfn
  obtain ⟨rec, hrec⟩ : ∃ rec : LoopState → Option Code → Loop, rec = fun st pe => { state := st, pending := pe, fn, tmps := a.tmps, params := ps, assign, body, defers := w.heap.size } := ⟨_, rfl⟩
  obtain ⟨W1, hW1⟩ : ∃ W1, (w.alloc (.deferred (some []))).alloc (.loop (rec .ready none)) = W1 := ⟨_, rfl⟩
  have hL1 : W1.heap[w.heap.size + 1]? = some (.loop (rec .ready none)) := by
    rw [← hW1]; have := World.alloc_heap_new (w.alloc (.deferred (some []))) (.loop (rec .ready none)); rwa [World.size_alloc] at this
  have hK1 : W1.heap[w.heap.size]? = some (.deferred (some [])) := by
    rw [← hW1]; exact (Below.heap_alloc _ _ _ (by simp)).trans (World.alloc_heap_new w _)
  have hI1 : I s W1 := by rw [← hW1]; exact hI.alloc _ (hI.alloc _ h0)
  have hb1 : Below w.heap.size w W1 := by
    rw [← hW1]; exact ((Below.refl _ w).alloc (Nat.le_refl _) _).alloc (by simp) _
  have hcb : W1.cell? ⟨b, 0, none⟩ = some (.string s) := (hb1.cell (p := ⟨b, 0, none⟩) hb).trans hc
  have hfb : W1.frozen? ⟨b, 0, none⟩ = false := (hb1.frozen (p := ⟨b, 0, none⟩) hb).trans hf
  refine ⟨w.heap.size + 1, [{ target := .collected w.heap.size, args := #[] }], W1, { target := .fn (.func 89) #[.pointer (some ⟨b, 0, none⟩)], args := #[.func (.yield (w.heap.size + 1)) #[] #[]] }, W1, 89,
    #[.func (.yield (w.heap.size + 1)) #[] #[]] ++ #[.pointer (some ⟨b, 0, none⟩)], W1, ?_, ?_, ?_, ?_, fun _ => by omega, ?_⟩
  · rw [← hW1, hrec]; exact run_enterLoop_outer _ _ _ _ _
  · simp only [resolve, hg]
    simp [go_sem]
  · intro f' hf'; exact trivial
  · simp [invoke, go_sem]
  · refine (lines1_in (n - 1) (w.heap.size + 1) b s (by omega) (fun t W => I t W ∧ W.heap[w.heap.size + 1]? = some (.loop (rec .ready none)) ∧ W.heap[w.heap.size]? = some (.deferred (some [])))
      (fun t W h => ⟨hD _ _ h.1, h.2⟩) (fun t W v h => ⟨hS _ _ _ h.1, (KeepsOthers.setCell W _ v).same _ _ h.2.1 rfl, (KeepsOthers.setCell W _ v).same _ _ h.2.2 rfl⟩) (fun t W h => hL t W h.1) ?_ W1 hcb hfb ⟨hI1, hL1, hK1⟩).mono ?_
    · rintro t o W ⟨hi, hl, hk⟩ ho hol hcW hfW
      have hlt : w.heap.size + 1 < W.heap.size := (Array.getElem?_eq_some_iff.1 hl).1
      have hy := run_yield (P := Tryz.prog) (args := #[Value.string (t.extract 0 (o + 1))]) hl (by rw [hrec]; exact hps.symm)
      rw [hrec] at hy
      refine ⟨fn, _, assign, body, hy, roundIn_of_wpIn hfn (hassign _ _ W _ ⟨_, run_beginRound hl (by rw [hrec]), ?_⟩)⟩
      have hl2 : (W.putObj (w.heap.size + 1) (.loop { rec .ready none with state := .busy })).heap[w.heap.size + 1]? = some (.loop { rec .ready none with state := .busy }) := World.putObj_heap_same hlt
      have hk2 : (W.putObj (w.heap.size + 1) (.loop { rec .ready none with state := .busy })).heap[w.heap.size]? = some (.deferred (some [])) := (World.putObj_heap_other (by omega)).trans hk
      have hg2 := grownBy_putObj' W (w.heap.size + 1) (.loop { rec .ready none with state := .busy })
      have hr2 : ∀ r, some (w.heap.size + 1) = some r → ∃ o : Obj, W.heap[r]? = some o ∧ o.isCells = false := fun r e => by cases e; exact ⟨_, hl, rfl⟩
      refine wpIn_mono (hbody _ t o _ (hI.putObj _ hi (by omega) hl rfl) ho hol (cell_kept hcW hg2 hr2) ((frozen_kept hcW hg2 hr2).trans hfW)) ?_
      rintro e a3 W3 hp
      cases e with
      | normal =>
        obtain ⟨hk3, hi3, hc3, hf3⟩ := hp
        have hl3 := hk3.same _ _ hl2 rfl
        have hr := run_endRound (P := Tryz.prog) none hl3
        have hg3 := grownBy_putObj' W3 (w.heap.size + 1) (.loop (rec .ready none))
        have hr3 : ∀ r, some (w.heap.size + 1) = some r → ∃ o : Obj, W3.heap[r]? = some o ∧ o.isCells = false := fun r e => by cases e; exact ⟨_, hl3, rfl⟩
        refine ⟨_, W3.putObj (w.heap.size + 1) (.loop (rec .ready none)), by rw [hrec] at hr ⊢; exact hr, rfl, ⟨hI.putObj _ hi3 (by omega) hl3 rfl, World.putObj_heap_same (Array.getElem?_eq_some_iff.1 hl3).1, (World.putObj_heap_other (by omega)).trans (hk3.same _ _ hk2 rfl)⟩, cell_kept hc3 hg3 hr3, (frozen_kept hc3 hg3 hr3).trans hf3⟩
      | ret => exact hp.elim
      | exit id => exact hp.elim
      | goto t => exact hp.elim
      | panic ch => exact hp.elim
      | outgrown => exact hp.elim
    · rintro e W2 ⟨⟨v, rfl⟩, t, ht, hi, hl, hk⟩
      exact ⟨none, _, by have := run_endLoop (P := Tryz.prog) hl (by rw [hrec]; simp); rw [hrec] at this; exact this, hdone _ t _ (Nat.le_refl _) ht (hI.putObj _ hi (by omega) hl rfl) ((World.putObj_heap_other (by omega)).trans hk)⟩
end Go.Proofs.YtcghhagnibabeaaGreatDoor
