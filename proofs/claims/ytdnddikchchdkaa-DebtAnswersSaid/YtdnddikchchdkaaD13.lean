/-
  THE WALK over debt.Offset, for any arguments.
-/
import Derived.Test.YtdnddikchchdkaaD12
namespace Go.Proofs.Ytdnddikchchdkaa
open Go.RowKit

noncomputable def oErr (farm : Int) (L : List De.Dbt) (next day amount : Int) : Int :=
  if De.chk farm L next ≠ 0 then 22 else if De.dayB day = false then 9 else if amount < 0 ∨ 68719476736 < amount then 67 else 0

theorem o_cases (farm : Int) (L : List De.Dbt) (next day amount : Int) :
    (De.chk farm L next = 22 ∧ oErr farm L next day amount = 22) ∨ (De.Right farm L next ∧ De.chk farm L next = 0 ∧ ((De.dayB day = false ∧ oErr farm L next day amount = 9) ∨ (De.dayB day = true ∧ ((amount < 0 ∧ oErr farm L next day amount = 67) ∨ (0 ≤ amount ∧ 68719476736 < amount ∧ oErr farm L next day amount = 67) ∨ (0 ≤ amount ∧ amount ≤ 68719476736 ∧ oErr farm L next day amount = 0))))) := by
  by_cases hR : De.Right farm L next
  · have c := De.chk_ok hR
    refine .inr ⟨hR, c, ?_⟩
    unfold oErr
    rw [if_neg (by rw [c]; simp)]
    cases h2 : De.dayB day
    · exact .inl ⟨rfl, by rw [if_pos rfl]⟩
    refine .inr ⟨rfl, ?_⟩
    rw [if_neg (by simp)]
    by_cases h3 : amount < 0
    · exact .inl ⟨h3, by rw [if_pos (.inl h3)]⟩
    by_cases h4 : 68719476736 < amount
    · exact .inr (.inl ⟨by omega, h4, by rw [if_pos (.inr h4)]⟩)
    · exact .inr (.inr ⟨by omega, by omega, by rw [if_neg (by omega)]⟩)
  · exact .inl ⟨De.chk_bad hR, by unfold oErr; rw [if_pos (by rw [De.chk_bad hR]; simp)]⟩

/-- The end of Offset: an error and the debts as they were, or what is left. -/
def OGives (w : World) (farm : Int) (p0 : Option Addr) (L : List De.Dbt) (next day amount : Int) (e : Ending) (w' : World) : Prop :=
  ∃ p c L' r, e = .returned (.tuple #[accV farm p L'.length c next, .int .i64 r, .int .i64 (oErr farm L next day amount)]) ∧ (if oErr farm L next day amount = 0 then De.Off day L amount L' r else L' = L ∧ r = 0) ∧ Lies w w' p0 p c L'

set_option maxRecDepth 100000 in
set_option maxHeartbeats 8000000 in
theorem offset39_bad (farm next : Int) (p : Option Addr) (L : List De.Dbt) (cap : Nat) (day amount : Int) (w : World) (h : Debts w p L) (hc : p = none → cap = 0) (hl : L.length ≤ 1000000) (he : oErr farm L next day amount ≠ 0) :
    Calls Try.prog 28 #[accV farm p L.length cap next, .int .i64 day, .int .i64 amount] w (CGive w farm p L next 0 (oErr farm L next day amount)) := by
  have hn := h.len
  have hb1 : Below w.heap.size w ((w.alloc (Obj.cells #[.int .i64 farm, .slice p L.length cap, .int .i64 next] 42)).alloc (Obj.cells #[.int .i64 0, .slice none 0 0, .int .i64 0] 42)) := ((Below.refl w.heap.size w).alloc (Nat.le_refl _) _).alloc (by simp) _
  have B1 := Lib.hid hb1
  have h1 := h.below hb1
  have CL := Lib.hid (clone39_any farm next p L cap ((w.alloc (Obj.cells #[.int .i64 farm, .slice p L.length cap, .int .i64 next] 42)).alloc (Obj.cells #[.int .i64 0, .slice none 0 0, .int .i64 0] 42)) h1 hc hl)
  have CK := Lib.hid (fun (W : World) (hW : Debts W p L) => check39_any farm next p L cap W hW)
  have H1 := Lib.hid h1
  have hbx : BoxA ((w.alloc (Obj.cells #[.int .i64 farm, .slice p L.length cap, .int .i64 next] 42)).alloc (Obj.cells #[.int .i64 0, .slice none 0 0, .int .i64 0] 42)) w.heap.size farm p L.length cap next := (BoxA.new w farm p L.length cap next 42).below ((Below.refl _ _).alloc (Nat.le_refl _) _) (by simp)
  have hrx : BoxA ((w.alloc (Obj.cells #[.int .i64 farm, .slice p L.length cap, .int .i64 next] 42)).alloc (Obj.cells #[.int .i64 0, .slice none 0 0, .int .i64 0] 42)) (w.heap.size + 1) 0 none 0 0 0 := by
    have := BoxA.new (w.alloc (Obj.cells #[.int .i64 farm, .slice p L.length cap, .int .i64 next] 42)) 0 none 0 0 0 42
    rw [World.size_alloc] at this
    exact this
  have BX := Lib.hid hbx
  have RX := Lib.hid hrx
  unfold accV at CL CK
  unfold accV
  rcases o_cases farm L next day amount with ⟨c, e⟩ | ⟨hR, c, ⟨d1, e⟩ | ⟨d1, ⟨d2, e⟩ | ⟨d2, d3, e⟩ | ⟨d2, d3, e⟩⟩⟩
  · rw [e]
    rw [c] at CK
    clear e c h hc h1 hb1 hbx hrx he
    go_enter Try.func28, Try.ntmps28
    go_wp2_with (first | (go_at_call 62; refine Calls.mono CL.out ?_; rintro e w1 ⟨p1, c1, rfl, hO1, hbl1⟩; have BX1 := Lib.hid (BX.out.below hbl1 (by simp <;> omega)); have RX1 := Lib.hid (RX.out.below hbl1 (by simp <;> omega)); have H2 := Lib.hid ((H1.out.below hbl1).below ((Below.refl _ _).alloc (Nat.le_refl _) (Obj.cells #[.int .i64 farm, .slice p1 L.length c1, .int .i64 next] 42))); have hs1 : w.heap.size + 1 < w1.heap.size := (by have := hbl1.size; simp at this; omega); obtain ⟨a0, a1, a2, -, -, -, hlt1⟩ := BX1.out; unfold accV) | (go_at_call 30; refine Calls.mono (CK.out _ H2.out) ?_; rintro e w3 ⟨rfl, hb3⟩; have hba := (Below.refl w1.heap.size w1).alloc (Nat.le_refl _) (Obj.cells #[.int .i64 farm, .slice p1 L.length c1, .int .i64 next] 42); have BX3 := Lib.hid ((BX1.out.below hba BX1.out.lt).below hb3 (by simp <;> omega)); have RX3 := Lib.hid ((RX1.out.below hba RX1.out.lt).below hb3 (by simp <;> omega)); have OX3 := Lib.hid ((BoxA.new w1 farm p1 L.length c1 next 42).below hb3 (by simp <;> omega)); have O3 := Lib.hid ((hO1.below hba).below hb3); have BB3 := Lib.hid (((B1.out.trans (hbl1.mono (by simp <;> omega))).alloc (by omega) _).trans (hb3.mono (by simp <;> omega))); obtain ⟨o0, o1, o2, og0, og1, og2, olt⟩ := OX3.out; obtain ⟨r0, r1, r2, rg0, rg1, rg2, rlt⟩ := RX3.out) | (go_at_call 63; refine (day39_any _ _).mono ?_; rintro e w' ⟨rfl, rfl⟩))
    obtain ⟨pz, cz, ez, hz⟩ := ((O3.out.setTo (w.heap.size + 1) (by simp <;> omega) (.int .i64 farm) (.slice p1 L.length c1) (.int .i64 next)).mono (B' := w.heap.size) (by simp <;> omega)).lies (p0 := p) (bsetTo BB3.out (w.heap.size + 1) (by omega) (.int .i64 farm) (.slice p1 L.length c1) (.int .i64 next))
    cases ez
    exact bodyPost_ret (v := .tuple #[.agg #[.int .i64 farm, .slice p1 L.length c1, .int .i64 next], .int .i64 0, .int .i64 22]) (by simp [results, Try.results28, go_sem, r0, r1, r2]) rfl ⟨_, _, rfl, hz⟩
  · rw [e]
    rw [c] at CK
    clear e c h hc h1 hb1 hbx hrx he hR
    go_enter Try.func28, Try.ntmps28
    go_wp2_with (first | (go_at_call 62; refine Calls.mono CL.out ?_; rintro e w1 ⟨p1, c1, rfl, hO1, hbl1⟩; have BX1 := Lib.hid (BX.out.below hbl1 (by simp <;> omega)); have RX1 := Lib.hid (RX.out.below hbl1 (by simp <;> omega)); have H2 := Lib.hid ((H1.out.below hbl1).below ((Below.refl _ _).alloc (Nat.le_refl _) (Obj.cells #[.int .i64 farm, .slice p1 L.length c1, .int .i64 next] 42))); have hs1 : w.heap.size + 1 < w1.heap.size := (by have := hbl1.size; simp at this; omega); obtain ⟨a0, a1, a2, -, -, -, hlt1⟩ := BX1.out; unfold accV) | (go_at_call 30; refine Calls.mono (CK.out _ H2.out) ?_; rintro e w3 ⟨rfl, hb3⟩; have hba := (Below.refl w1.heap.size w1).alloc (Nat.le_refl _) (Obj.cells #[.int .i64 farm, .slice p1 L.length c1, .int .i64 next] 42); have BX3 := Lib.hid ((BX1.out.below hba BX1.out.lt).below hb3 (by simp <;> omega)); have RX3 := Lib.hid ((RX1.out.below hba RX1.out.lt).below hb3 (by simp <;> omega)); have OX3 := Lib.hid ((BoxA.new w1 farm p1 L.length c1 next 42).below hb3 (by simp <;> omega)); have O3 := Lib.hid ((hO1.below hba).below hb3); have BB3 := Lib.hid (((B1.out.trans (hbl1.mono (by simp <;> omega))).alloc (by omega) _).trans (hb3.mono (by simp <;> omega))); obtain ⟨o0, o1, o2, og0, og1, og2, olt⟩ := OX3.out; obtain ⟨r0, r1, r2, rg0, rg1, rg2, rlt⟩ := RX3.out) | (go_at_call 63; refine (day39_any _ _).mono ?_; rintro e w' ⟨rfl, rfl⟩))
    obtain ⟨pz, cz, ez, hz⟩ := ((O3.out.setTo (w.heap.size + 1) (by simp <;> omega) (.int .i64 farm) (.slice p1 L.length c1) (.int .i64 next)).mono (B' := w.heap.size) (by simp <;> omega)).lies (p0 := p) (bsetTo BB3.out (w.heap.size + 1) (by omega) (.int .i64 farm) (.slice p1 L.length c1) (.int .i64 next))
    cases ez
    exact bodyPost_ret (v := .tuple #[.agg #[.int .i64 farm, .slice p1 L.length c1, .int .i64 next], .int .i64 0, .int .i64 9]) (by simp [results, Try.results28, go_sem, r0, r1, r2]) rfl ⟨_, _, rfl, hz⟩
  · rw [e]
    rw [c] at CK
    clear e c h hc h1 hb1 hbx hrx he hR
    go_enter Try.func28, Try.ntmps28
    go_wp2_with (first | (go_at_call 62; refine Calls.mono CL.out ?_; rintro e w1 ⟨p1, c1, rfl, hO1, hbl1⟩; have BX1 := Lib.hid (BX.out.below hbl1 (by simp <;> omega)); have RX1 := Lib.hid (RX.out.below hbl1 (by simp <;> omega)); have H2 := Lib.hid ((H1.out.below hbl1).below ((Below.refl _ _).alloc (Nat.le_refl _) (Obj.cells #[.int .i64 farm, .slice p1 L.length c1, .int .i64 next] 42))); have hs1 : w.heap.size + 1 < w1.heap.size := (by have := hbl1.size; simp at this; omega); obtain ⟨a0, a1, a2, -, -, -, hlt1⟩ := BX1.out; unfold accV) | (go_at_call 30; refine Calls.mono (CK.out _ H2.out) ?_; rintro e w3 ⟨rfl, hb3⟩; have hba := (Below.refl w1.heap.size w1).alloc (Nat.le_refl _) (Obj.cells #[.int .i64 farm, .slice p1 L.length c1, .int .i64 next] 42); have BX3 := Lib.hid ((BX1.out.below hba BX1.out.lt).below hb3 (by simp <;> omega)); have RX3 := Lib.hid ((RX1.out.below hba RX1.out.lt).below hb3 (by simp <;> omega)); have OX3 := Lib.hid ((BoxA.new w1 farm p1 L.length c1 next 42).below hb3 (by simp <;> omega)); have O3 := Lib.hid ((hO1.below hba).below hb3); have BB3 := Lib.hid (((B1.out.trans (hbl1.mono (by simp <;> omega))).alloc (by omega) _).trans (hb3.mono (by simp <;> omega))); obtain ⟨o0, o1, o2, og0, og1, og2, olt⟩ := OX3.out; obtain ⟨r0, r1, r2, rg0, rg1, rg2, rlt⟩ := RX3.out) | (go_at_call 63; refine (day39_any _ _).mono ?_; rintro e w' ⟨rfl, rfl⟩))
    obtain ⟨pz, cz, ez, hz⟩ := ((O3.out.setTo (w.heap.size + 1) (by simp <;> omega) (.int .i64 farm) (.slice p1 L.length c1) (.int .i64 next)).mono (B' := w.heap.size) (by simp <;> omega)).lies (p0 := p) (bsetTo BB3.out (w.heap.size + 1) (by omega) (.int .i64 farm) (.slice p1 L.length c1) (.int .i64 next))
    cases ez
    exact bodyPost_ret (v := .tuple #[.agg #[.int .i64 farm, .slice p1 L.length c1, .int .i64 next], .int .i64 0, .int .i64 67]) (by simp [results, Try.results28, go_sem, r0, r1, r2]) rfl ⟨_, _, rfl, hz⟩
  · rw [e]
    rw [c] at CK
    clear e c h hc h1 hb1 hbx hrx he hR
    go_enter Try.func28, Try.ntmps28
    go_wp2_with (first | (go_at_call 62; refine Calls.mono CL.out ?_; rintro e w1 ⟨p1, c1, rfl, hO1, hbl1⟩; have BX1 := Lib.hid (BX.out.below hbl1 (by simp <;> omega)); have RX1 := Lib.hid (RX.out.below hbl1 (by simp <;> omega)); have H2 := Lib.hid ((H1.out.below hbl1).below ((Below.refl _ _).alloc (Nat.le_refl _) (Obj.cells #[.int .i64 farm, .slice p1 L.length c1, .int .i64 next] 42))); have hs1 : w.heap.size + 1 < w1.heap.size := (by have := hbl1.size; simp at this; omega); obtain ⟨a0, a1, a2, -, -, -, hlt1⟩ := BX1.out; unfold accV) | (go_at_call 30; refine Calls.mono (CK.out _ H2.out) ?_; rintro e w3 ⟨rfl, hb3⟩; have hba := (Below.refl w1.heap.size w1).alloc (Nat.le_refl _) (Obj.cells #[.int .i64 farm, .slice p1 L.length c1, .int .i64 next] 42); have BX3 := Lib.hid ((BX1.out.below hba BX1.out.lt).below hb3 (by simp <;> omega)); have RX3 := Lib.hid ((RX1.out.below hba RX1.out.lt).below hb3 (by simp <;> omega)); have OX3 := Lib.hid ((BoxA.new w1 farm p1 L.length c1 next 42).below hb3 (by simp <;> omega)); have O3 := Lib.hid ((hO1.below hba).below hb3); have BB3 := Lib.hid (((B1.out.trans (hbl1.mono (by simp <;> omega))).alloc (by omega) _).trans (hb3.mono (by simp <;> omega))); obtain ⟨o0, o1, o2, og0, og1, og2, olt⟩ := OX3.out; obtain ⟨r0, r1, r2, rg0, rg1, rg2, rlt⟩ := RX3.out) | (go_at_call 63; refine (day39_any _ _).mono ?_; rintro e w' ⟨rfl, rfl⟩))
    obtain ⟨pz, cz, ez, hz⟩ := ((O3.out.setTo (w.heap.size + 1) (by simp <;> omega) (.int .i64 farm) (.slice p1 L.length c1) (.int .i64 next)).mono (B' := w.heap.size) (by simp <;> omega)).lies (p0 := p) (bsetTo BB3.out (w.heap.size + 1) (by omega) (.int .i64 farm) (.slice p1 L.length c1) (.int .i64 next))
    cases ez
    exact bodyPost_ret (v := .tuple #[.agg #[.int .i64 farm, .slice p1 L.length c1, .int .i64 next], .int .i64 0, .int .i64 67]) (by simp [results, Try.results28, go_sem, r0, r1, r2]) rfl ⟨_, _, rfl, hz⟩
  · exact absurd e he

theorem offset39_any (farm next : Int) (p : Option Addr) (L : List De.Dbt) (cap : Nat) (day amount : Int) (w : World) (h : Debts w p L) (hc : p = none → cap = 0) (hl : L.length ≤ 1000000) :
    Calls Try.prog 28 #[accV farm p L.length cap next, .int .i64 day, .int .i64 amount] w (OGives w farm p L next day amount) := by
  by_cases he : oErr farm L next day amount = 0
  · rcases o_cases farm L next day amount with ⟨c, e⟩ | ⟨hR, c, ⟨d1, e⟩ | ⟨d1, ⟨d2, e⟩ | ⟨d2, d3, e⟩ | ⟨d2, d3, e⟩⟩⟩
    all_goals first
      | (exfalso; omega)
      | (refine (offset39_ok farm next p L cap day amount w h hc hR d1 d2 d3).mono fun e w' hh => ?_
         obtain ⟨p', c', L', r, h1, h2, h3⟩ := hh
         exact ⟨p', c', L', r, by rw [he]; exact h1, by rw [if_pos he]; exact h2, h3⟩)
  · refine (offset39_bad farm next p L cap day amount w h hc hl he).mono fun e w' hh => ?_
    obtain ⟨p', c', h1, h2⟩ := hh
    exact ⟨p', c', L, 0, h1, by rw [if_neg he]; exact ⟨rfl, rfl⟩, h2⟩

end Go.Proofs.Ytdnddikchchdkaa
