/-
  THE WALKS over slices.Clone at debts, debt.clone, ref39.copied: an account that shares nothing.
-/
import Derived.Test.YtdnddikchchdkaaD1
import Derived.Test.YtdnddikchchdkaaGc
import Derived.Deep.RegionHeld3
import Derived.Outline
namespace Go.Proofs.Ytdnddikchchdkaa
open Go.RowKit

/-- The end of a function that returns a row of debts of its own. -/
def DGive (w : World) (L : List De.Dbt) (e : Ending) (w' : World) : Prop :=
  ∃ p c, e = .returned (.slice p L.length c) ∧ OwnR SD w' 49 w.heap.size (.slice p L.length c) L ∧ Below w.heap.size w w'

/-- The end of a function that returns an account of its own. -/
def AGive (w : World) (farm : Int) (L : List De.Dbt) (next : Int) (e : Ending) (w' : World) : Prop :=
  ∃ p c, e = .returned (accV farm p L.length c next) ∧ OwnR SD w' 49 w.heap.size (.slice p L.length c) L ∧ Below w.heap.size w w'

theorem OwnR.sl {w : World} {T : TypeId} {B : Nat} {v : Value} {L : List De.Dbt} (h : OwnR SD w T B v L) : ∃ p c, v = .slice p L.length c := by
  obtain ⟨p, c, e, _⟩ := h.cut rfl
  exact ⟨p, c, e⟩

theorem OwnR.made0 {α : Type} {S : Shape α} (w : World) (T : TypeId) : OwnR S (w.alloc (.cells #[] T)) T w.heap.size (.slice (some ⟨w.heap.size, 0, none⟩) 0 0) [] :=
  World.ownsRow_made w #[] 0 (Nat.le_refl _) (by unfold maxLen; omega) (by simp)

set_option maxHeartbeats 1000000 in
theorem clone39S_any (p : Option Addr) (L : List De.Dbt) (cap : Nat) (w : World) (h : Debts w p L) (hc : p = none → cap = 0) (hl : L.length ≤ 1000000) :
    Calls Try.prog 83 #[.slice p L.length cap] w (DGive w L) := by
  have hn := h.len
  have q := fun (w : World) (a : Option Addr) (n c n' c' : Nat) => Lib.run_eql_slice_nil (P := Try.prog) w _ _ a n c n' c' Try.underlying40
  cases p with
  | none =>
    have hL : L = [] := by
      rcases h.2 with h | ⟨b, off, h, _⟩
      · exact h
      · cases h
    subst hL
    clear h hc
    go_enter Try.func83, Try.ntmps83
    go_wp2
    go_ret
    exact ⟨none, 0, rfl, OwnR.nil _ _ _, Below.refl _ _⟩
  | some ad =>
    have H := Lib.hid h
    clear h hc
    go_enter Try.func83, Try.ntmps83
    go_wp2_with (first | (at_builtin; (refine OwnR.appendAll el_dbt rfl (.tmp 5) (.tmp 6) rfl w.heap.size (.slice (some ⟨w.heap.size, 0, none⟩) 0 0) [] L (some ad) cap L.length rfl (OwnR.made0 w 49) (H.out.below ((Below.refl _ _).alloc (Nat.le_refl _) _)) (fun h => by cases h) rfl rfl (by simp) (by simp; omega) (by decide) ?_); intro v1 w1 hown1 hap1; obtain ⟨p1, c1, rfl⟩ := hown1.sl))
    go_ret
    exact ⟨p1, c1, rfl, hown1, ((Below.refl w.heap.size w).alloc (Nat.le_refl _) _).trans hap1.below⟩

set_option maxRecDepth 100000 in
set_option maxHeartbeats 2000000 in
theorem clone39_any (farm next : Int) (p : Option Addr) (L : List De.Dbt) (cap : Nat) (w : World) (h : Debts w p L) (hc : p = none → cap = 0) (hl : L.length ≤ 1000000) :
    Calls Try.prog 62 #[accV farm p L.length cap next] w (AGive w farm L next) := by
  unfold accV
  have hn := h.len
  have HC := Lib.hid (fun (W : World) (hW : Debts W p L) => clone39S_any p L cap W hW hc hl)
  have H := Lib.hid ((h.below ((Below.refl w.heap.size w).alloc (Nat.le_refl _) (Obj.cells #[.int .i64 farm, .slice p L.length cap, .int .i64 next] 42))).below ((Below.refl _ _).alloc (Nat.le_refl _) (Obj.cells #[.int .i64 0, .slice none 0 0, .int .i64 0] 42)))
  clear h hc
  go_enter Try.func62, Try.ntmps62
  go_wp2_with fail
  go_region_held3 (fun w' => (w'.cell? ⟨w.heap.size, 0, none⟩ = some (.int .i64 farm) ∧ w'.cell? ⟨w.heap.size, 1, none⟩ = some (.slice p L.length cap) ∧ w'.cell? ⟨w.heap.size, 2, none⟩ = some (.int .i64 next))) (first | exact ⟨g0, g1, g2⟩ | go_keep)
    (first | (go_at_call 83; refine (HC.out _ H.out.drew).mono ?_; rintro e w1 ⟨p1, c1, rfl, hO1, hb1⟩; have g0 := (hb1.cell (p := ⟨w.heap.size, 0, none⟩) (by simp <;> omega)).trans (show _ = some (Value.int .i64 farm) by go_simp); have g1 := (hb1.cell (p := ⟨w.heap.size, 1, none⟩) (by simp <;> omega)).trans (show _ = some (Value.slice p L.length cap) by go_simp); have g2 := (hb1.cell (p := ⟨w.heap.size, 2, none⟩) (by simp <;> omega)).trans (show _ = some (Value.int .i64 next) by go_simp); have r0 := (hb1.cell (p := ⟨w.heap.size + 1, 0, none⟩) (by simp <;> omega)).trans (show _ = some (Value.int .i64 0) by go_simp); have r1 := (hb1.cell (p := ⟨w.heap.size + 1, 1, none⟩) (by simp <;> omega)).trans (show _ = some (Value.slice none 0 0) by go_simp); have r2 := (hb1.cell (p := ⟨w.heap.size + 1, 2, none⟩) (by simp <;> omega)).trans (show _ = some (Value.int .i64 0) by go_simp); have f0 := (hb1.frozen (p := ⟨w.heap.size + 1, 0, none⟩) (by simp <;> omega)).trans (show _ = false by go_simp); have f1 := (hb1.frozen (p := ⟨w.heap.size + 1, 1, none⟩) (by simp <;> omega)).trans (show _ = false by go_simp); have f2 := (hb1.frozen (p := ⟨w.heap.size + 1, 2, none⟩) (by simp <;> omega)).trans (show _ = false by go_simp); have hs1 : w.heap.size + 1 < w1.heap.size := (by have := hb1.size; simp at this; omega)))
  go_wp2
  have hne : ∀ g, (Value.slice p1 L.length c1).ownBlock = some g → g ≠ w.heap.size + 1 := fun g hg e => by
    have := (hO1.lt hg).1
    simp at this
    omega
  have hne1 : (Value.slice p1 L.length c1).ownBlock ≠ some (w.heap.size + 1) := fun e => hne _ e rfl
  have hbB : Below w.heap.size w w1 := (((Below.refl w.heap.size w).alloc (Nat.le_refl _) _).alloc (by simp) _).trans ((bdrew' hb1).mono (by simp; omega))
  exact bodyPost_ret (v := .agg #[.int .i64 farm, .slice p1 L.length c1, .int .i64 next]) (by simp [results, Try.results62, go_sem, r0, r1, r2]) rfl ⟨p1, c1, rfl, (((hO1.setOther hne1 _).setOther hne1 _).setOther hne1 _).mono (by simp; omega), ((hbB.setCell (by simp) _).setCell (by simp) _).setCell (by simp) _⟩

end Go.Proofs.Ytdnddikchchdkaa
