/-
  THE WALK over debt.Charge.
-/
import Derived.Test.YtdnddikchchdkaaD5
import Derived.Outline
namespace Go.Proofs.Ytdnddikchchdkaa
open Go.RowKit

/-- The end of a function that returns an account: where its debts lie. -/
structure Lies (w w' : World) (p0 p : Option Addr) (c : Nat) (L : List De.Dbt) : Prop where
  recs : Debts w' p L
  nil : p = none → c = 0
  new : p = p0 ∨ ∀ x, p = some x → w.heap.size ≤ x.block
  below : Below w.heap.size w w'

theorem OwnR.lies {w w' : World} {p0 : Option Addr} {T : TypeId} {v : Value} {L : List De.Dbt} (h : OwnR SD w' T w.heap.size v L) (hb : Below w.heap.size w w') : ∃ p c, v = .slice p L.length c ∧ Lies w w' p0 p c L := by
  obtain ⟨p, c, e, h1, h2, h3, h4, h5⟩ := h.cut rfl
  exact ⟨p, c, e, h5, fun h => (h1 h).1, .inr fun x hx => (h2 x hx).2.2.1, hb⟩

theorem BoxA.far {w w' : World} {b : Nat} {farm : Int} {p : Option Addr} {n c : Nat} {next : Int} {B H : Nat} {v v' : Value} (h : BoxA w b farm p n c next) (ha : Appends w w' B H v v') (hne : v.ownBlock ≠ some b) : BoxA w' b farm p n c next := by
  have e := ha.far b h.lt hne
  have hc : ∀ i, w'.cell? ⟨b, i, none⟩ = w.cell? ⟨b, i, none⟩ := fun i => World.cell?_of_block (w := w) e
  have hf : ∀ i, w'.frozen? ⟨b, i, none⟩ = w.frozen? ⟨b, i, none⟩ := fun i => World.frozen?_of_block (w := w) e
  exact ⟨(hc 0).trans h.a0, (hc 1).trans h.a1, (hc 2).trans h.a2, (hf 0).trans h.f0, (hf 1).trans h.f1, (hf 2).trans h.f2, Nat.lt_of_lt_of_le h.lt ha.size⟩

theorem OwnR.setTo {α : Type} {S : Shape α} {w : World} {T : TypeId} {B : Nat} {v : Value} {L : List α} (h : OwnR S w T B v L) (b : Nat) (hb : b < B) (x y z : Value) : OwnR S (((w.setCell ⟨b, 0, none⟩ x).setCell ⟨b, 1, none⟩ y).setCell ⟨b, 2, none⟩ z) T B v L := by
  have hne : v.ownBlock ≠ some b := fun e => by have := (h.lt e).1; omega
  exact ((h.setOther hne x).setOther hne y).setOther hne z

theorem OwnR.notBlock {α : Type} {S : Shape α} {w : World} {T : TypeId} {B : Nat} {v : Value} {L : List α} (h : OwnR S w T B v L) {b : Nat} (hb : b < B) : v.ownBlock ≠ some b := fun e => by have := (h.lt e).1; omega

theorem bsetTo {w w' : World} {B : Nat} (h : Below B w w') (b : Nat) (hb : B ≤ b) (x y z : Value) : Below B w (((w'.setCell ⟨b, 0, none⟩ x).setCell ⟨b, 1, none⟩ y).setCell ⟨b, 2, none⟩ z) :=
  ((h.setCell hb x).setCell hb y).setCell hb z

def CGive (w : World) (farm : Int) (p0 : Option Addr) (L : List De.Dbt) (next num er : Int) (e : Ending) (w' : World) : Prop :=
  ∃ p c, e = .returned (.tuple #[accV farm p L.length c next, .int .i64 num, .int .i64 er]) ∧ Lies w w' p0 p c L

theorem c_cases (farm : Int) (L : List De.Dbt) (next of due amount : Int) :
    (De.chk farm L next = 22 ∧ De.cErr farm L next of due amount = 22) ∨
    (De.Right farm L next ∧ De.chk farm L next = 0 ∧ ((De.decB of = false ∧ De.cErr farm L next of due amount = 76) ∨ (De.decB of = true ∧ ((De.dayB due = false ∧ De.cErr farm L next of due amount = 9) ∨ (De.dayB due = true ∧
      ((amount < 1 ∧ De.cErr farm L next of due amount = 67) ∨ (1 ≤ amount ∧ 68719476736 < amount ∧ De.cErr farm L next of due amount = 67) ∨ (1 ≤ amount ∧ amount ≤ 68719476736 ∧ 68719476736 < De.total L + amount ∧ De.cErr farm L next of due amount = 67) ∨
       (1 ≤ amount ∧ amount ≤ 68719476736 ∧ De.total L + amount ≤ 68719476736 ∧ ((((L.length : Int) == 40) = true ∧ De.cErr farm L next of due amount = 73) ∨ (((L.length : Int) == 40) = false ∧ (((next == 1125899906842624) = true ∧ De.cErr farm L next of due amount = 73) ∨ ((next == 1125899906842624) = false ∧ De.cErr farm L next of due amount = 0))))))))))) := by
  by_cases hR : De.Right farm L next
  · have c := De.chk_ok hR
    refine .inr ⟨hR, c, ?_⟩
    unfold De.cErr
    rw [if_neg (by rw [c]; simp)]
    cases h1 : De.decB of
    · exact .inl ⟨rfl, by rw [if_pos rfl]⟩
    refine .inr ⟨rfl, ?_⟩
    rw [if_neg (by simp)]
    cases h2 : De.dayB due
    · exact .inl ⟨rfl, by rw [if_pos rfl]⟩
    refine .inr ⟨rfl, ?_⟩
    rw [if_neg (by simp)]
    by_cases h3 : amount < 1
    · exact .inl ⟨h3, by rw [if_pos (.inl h3)]⟩
    by_cases h4 : 68719476736 < amount
    · exact .inr (.inl ⟨by omega, h4, by rw [if_pos (.inr (.inl h4))]⟩)
    by_cases h5 : 68719476736 < De.total L + amount
    · exact .inr (.inr (.inl ⟨by omega, by omega, h5, by rw [if_pos (.inr (.inr h5))]⟩))
    refine .inr (.inr (.inr ⟨by omega, by omega, by omega, ?_⟩))
    rw [if_neg (by omega)]
    by_cases h6 : L.length = 40
    · exact .inl ⟨by rw [h6]; rfl, by rw [if_pos (.inl h6)]⟩
    refine .inr ⟨beq_eq_false_iff_ne.2 (by omega), ?_⟩
    by_cases h7 : next = 1125899906842624
    · exact .inl ⟨beq_iff_eq.2 h7, by rw [if_pos (.inr h7)]⟩
    · exact .inr ⟨beq_eq_false_iff_ne.2 h7, by rw [if_neg (by omega)]⟩
  · exact .inl ⟨De.chk_bad hR, by unfold De.cErr; rw [if_pos (by rw [De.chk_bad hR]; simp)]⟩

theorem c_vals {farm : Int} {L : List De.Dbt} {next of due amount er : Int} (h : De.cErr farm L next of due amount = er) (h0 : er ≠ 0) : De.cList farm L next of due amount = L ∧ De.cNext farm L next of due amount = next ∧ De.cNum farm L next of due amount = 0 := by
  unfold De.cList De.cNext De.cNum
  rw [h]
  simp [h0]
theorem c_vals0 {farm : Int} {L : List De.Dbt} {next of due amount : Int} (h : De.cErr farm L next of due amount = 0) : De.cList farm L next of due amount = L ++ [⟨next, of, due, amount, amount⟩] ∧ De.cNext farm L next of due amount = next + 1 ∧ De.cNum farm L next of due amount = next := by
  unfold De.cList De.cNext De.cNum
  rw [h]
  simp

theorem amt_of_right {farm : Int} {L : List De.Dbt} {next : Int} (h : De.Right farm L next) : ∀ d ∈ L, 0 ≤ d.amt ∧ d.amt ≤ 68719476736 := fun d hd => by
  have := (h.each d hd).2.2; unfold De.good at this; omega

set_option maxRecDepth 100000 in
set_option maxHeartbeats 8000000 in
theorem charge39_bad (farm next : Int) (p : Option Addr) (L : List De.Dbt) (cap : Nat) (of due amount : Int) (w : World) (h : Debts w p L) (hc : p = none → cap = 0) (hl : L.length ≤ 1000000) (he : De.cErr farm L next of due amount ≠ 0) :
    Calls Try.prog 31 #[accV farm p L.length cap next, .int .i64 of, .int .i64 due, .int .i64 amount] w (CGive w farm p (De.cList farm L next of due amount) (De.cNext farm L next of due amount) (De.cNum farm L next of due amount) (De.cErr farm L next of due amount)) := by
  have hn := h.len
  have hb1 : Below w.heap.size w ((w.alloc (Obj.cells #[.int .i64 farm, .slice p L.length cap, .int .i64 next] 42)).alloc (Obj.cells #[.int .i64 0, .slice none 0 0, .int .i64 0] 42)) := ((Below.refl w.heap.size w).alloc (Nat.le_refl _) _).alloc (by simp <;> omega) _
  have B1 := Lib.hid hb1
  have h1 := h.below hb1
  have CL := Lib.hid (clone39_any farm next p L cap ((w.alloc (Obj.cells #[.int .i64 farm, .slice p L.length cap, .int .i64 next] 42)).alloc (Obj.cells #[.int .i64 0, .slice none 0 0, .int .i64 0] 42)) h1 hc hl)
  have CK := Lib.hid (fun (W : World) (hW : Debts W p L) => check39_any farm next p L cap W hW)
  have H1 := Lib.hid h1
  have hbx : BoxA ((w.alloc (Obj.cells #[.int .i64 farm, .slice p L.length cap, .int .i64 next] 42)).alloc (Obj.cells #[.int .i64 0, .slice none 0 0, .int .i64 0] 42)) w.heap.size farm p L.length cap next := (BoxA.new w farm p L.length cap next 42).below ((Below.refl _ _).alloc (Nat.le_refl _) _) (by simp <;> omega)
  have hrx : BoxA ((w.alloc (Obj.cells #[.int .i64 farm, .slice p L.length cap, .int .i64 next] 42)).alloc (Obj.cells #[.int .i64 0, .slice none 0 0, .int .i64 0] 42)) (w.heap.size + 1) 0 none 0 0 0 := by
    have := BoxA.new (w.alloc (Obj.cells #[.int .i64 farm, .slice p L.length cap, .int .i64 next] 42)) 0 none 0 0 0 42
    rw [World.size_alloc] at this
    exact this
  have BX := Lib.hid hbx
  have RX := Lib.hid hrx
  unfold accV at CL CK ⊢
  rcases c_cases farm L next of due amount with ⟨c, e⟩ | ⟨hR, c, ⟨d1, e⟩ | ⟨d1, ⟨d2, e⟩ | ⟨d2, ⟨d3, e⟩ | ⟨d3, d4, e⟩ | ⟨d3, d4, d5, e⟩ | ⟨d3, d4, d5, ⟨d6, e⟩ | ⟨d6, ⟨d7, e⟩ | ⟨d7, e⟩⟩⟩⟩⟩⟩
  · obtain ⟨v1, v2, v3⟩ := c_vals e (by omega)
    rw [e, v1, v2, v3]
    rw [c] at CK
    clear v1 v2 v3 e c h hc h1 hb1 hbx hrx
    go_enter Try.func31, Try.ntmps31
    go_wp2_with (first | (go_at_call 62; refine Calls.mono CL.out ?_; rintro e w1 ⟨p1, c1, rfl, hO1, hbl1⟩; have BX1 := Lib.hid (BX.out.below hbl1 (by simp <;> omega)); have RX1 := Lib.hid (RX.out.below hbl1 (by simp <;> omega)); have H2 := Lib.hid ((H1.out.below hbl1).below ((Below.refl _ _).alloc (Nat.le_refl _) (Obj.cells #[.int .i64 farm, .slice p1 L.length c1, .int .i64 next] 42))); have hs1 : w.heap.size + 1 < w1.heap.size := (by have := hbl1.size; simp at this; omega); obtain ⟨a0, a1, a2, -, -, -, hlt1⟩ := BX1.out; unfold accV) | (go_at_call 30; refine Calls.mono (CK.out _ H2.out) ?_; rintro e w3 ⟨rfl, hb3⟩; have hba := (Below.refl w1.heap.size w1).alloc (Nat.le_refl _) (Obj.cells #[.int .i64 farm, .slice p1 L.length c1, .int .i64 next] 42); have BX3 := Lib.hid ((BX1.out.below hba BX1.out.lt).below hb3 (by simp <;> omega)); have RX3 := Lib.hid ((RX1.out.below hba RX1.out.lt).below hb3 (by simp <;> omega)); have OX3 := Lib.hid ((BoxA.new w1 farm p1 L.length c1 next 42).below hb3 (by simp <;> omega)); have O3 := Lib.hid ((hO1.below hba).below hb3); have H3 := Lib.hid (H2.out.below hb3); have BB3 := Lib.hid (((B1.out.trans (hbl1.mono (by simp <;> omega))).alloc (by omega) _).trans (hb3.mono (by simp <;> omega))); obtain ⟨b0, b1, b2, -, -, -, blt⟩ := BX3.out; obtain ⟨o0, o1, o2, og0, og1, og2, olt⟩ := OX3.out; obtain ⟨r0, r1, r2, rg0, rg1, rg2, rlt⟩ := RX3.out) | (go_at_call 70; refine (dec39_any _ _).mono ?_; rintro e w' ⟨rfl, rfl⟩) | (go_at_call 63; refine (day39_any _ _).mono ?_; rintro e w' ⟨rfl, rfl⟩) | (go_at_call 69; refine (AM.out _ H3.out).mono ?_; rintro e w4 ⟨rfl, hb4⟩; obtain ⟨m0, m1, m2, -, -, -, mlt⟩ := BX3.out.below hb4 BX3.out.lt; obtain ⟨p0, p1', p2, pg0, pg1, pg2, plt⟩ := OX3.out.below hb4 OX3.out.lt; obtain ⟨q0, q1, q2, qg0, qg1, qg2, qlt⟩ := RX3.out.below hb4 RX3.out.lt))
    obtain ⟨pz, cz, ez, hz⟩ := ((O3.out.setTo (w.heap.size + 1) (by simp <;> omega) (.int .i64 farm) (.slice p1 L.length c1) (.int .i64 next)).mono (B' := w.heap.size) (by simp <;> omega)).lies (p0 := p) (bsetTo BB3.out (w.heap.size + 1) (by omega) (.int .i64 farm) (.slice p1 L.length c1) (.int .i64 next))
    cases ez
    exact bodyPost_ret (v := .tuple #[.agg #[.int .i64 farm, .slice p1 L.length c1, .int .i64 next], .int .i64 0, .int .i64 22]) (by simp [results, Try.results31, go_sem, r0, r1, r2]) rfl ⟨_, _, rfl, hz⟩
  · obtain ⟨v1, v2, v3⟩ := c_vals e (by omega)
    rw [e, v1, v2, v3]
    rw [c] at CK
    clear v1 v2 v3 e c h hc h1 hb1 hbx hrx
    have AM := Lib.hid (fun W (hW : Debts W p L) => amounts_any p L cap W hW (amt_of_right hR) (by have := hR.len; omega))
    have htt := De.total_nonneg (fun d hd => (amt_of_right hR d hd).1)
    have htm := hR.tot
    clear hR
    go_enter Try.func31, Try.ntmps31
    go_wp2_with (first | (go_at_call 62; refine Calls.mono CL.out ?_; rintro e w1 ⟨p1, c1, rfl, hO1, hbl1⟩; have BX1 := Lib.hid (BX.out.below hbl1 (by simp <;> omega)); have RX1 := Lib.hid (RX.out.below hbl1 (by simp <;> omega)); have H2 := Lib.hid ((H1.out.below hbl1).below ((Below.refl _ _).alloc (Nat.le_refl _) (Obj.cells #[.int .i64 farm, .slice p1 L.length c1, .int .i64 next] 42))); have hs1 : w.heap.size + 1 < w1.heap.size := (by have := hbl1.size; simp at this; omega); obtain ⟨a0, a1, a2, -, -, -, hlt1⟩ := BX1.out; unfold accV) | (go_at_call 30; refine Calls.mono (CK.out _ H2.out) ?_; rintro e w3 ⟨rfl, hb3⟩; have hba := (Below.refl w1.heap.size w1).alloc (Nat.le_refl _) (Obj.cells #[.int .i64 farm, .slice p1 L.length c1, .int .i64 next] 42); have BX3 := Lib.hid ((BX1.out.below hba BX1.out.lt).below hb3 (by simp <;> omega)); have RX3 := Lib.hid ((RX1.out.below hba RX1.out.lt).below hb3 (by simp <;> omega)); have OX3 := Lib.hid ((BoxA.new w1 farm p1 L.length c1 next 42).below hb3 (by simp <;> omega)); have O3 := Lib.hid ((hO1.below hba).below hb3); have H3 := Lib.hid (H2.out.below hb3); have BB3 := Lib.hid (((B1.out.trans (hbl1.mono (by simp <;> omega))).alloc (by omega) _).trans (hb3.mono (by simp <;> omega))); obtain ⟨b0, b1, b2, -, -, -, blt⟩ := BX3.out; obtain ⟨o0, o1, o2, og0, og1, og2, olt⟩ := OX3.out; obtain ⟨r0, r1, r2, rg0, rg1, rg2, rlt⟩ := RX3.out) | (go_at_call 70; refine (dec39_any _ _).mono ?_; rintro e w' ⟨rfl, rfl⟩) | (go_at_call 63; refine (day39_any _ _).mono ?_; rintro e w' ⟨rfl, rfl⟩) | (go_at_call 69; refine (AM.out _ H3.out).mono ?_; rintro e w4 ⟨rfl, hb4⟩; obtain ⟨m0, m1, m2, -, -, -, mlt⟩ := BX3.out.below hb4 BX3.out.lt; obtain ⟨p0, p1', p2, pg0, pg1, pg2, plt⟩ := OX3.out.below hb4 OX3.out.lt; obtain ⟨q0, q1, q2, qg0, qg1, qg2, qlt⟩ := RX3.out.below hb4 RX3.out.lt))
    obtain ⟨pz, cz, ez, hz⟩ := ((O3.out.setTo (w.heap.size + 1) (by simp <;> omega) (.int .i64 farm) (.slice p1 L.length c1) (.int .i64 next)).mono (B' := w.heap.size) (by simp <;> omega)).lies (p0 := p) (bsetTo BB3.out (w.heap.size + 1) (by omega) (.int .i64 farm) (.slice p1 L.length c1) (.int .i64 next))
    cases ez
    exact bodyPost_ret (v := .tuple #[.agg #[.int .i64 farm, .slice p1 L.length c1, .int .i64 next], .int .i64 0, .int .i64 76]) (by simp [results, Try.results31, go_sem, r0, r1, r2]) rfl ⟨_, _, rfl, hz⟩
  · obtain ⟨v1, v2, v3⟩ := c_vals e (by omega)
    rw [e, v1, v2, v3]
    rw [c] at CK
    clear v1 v2 v3 e c h hc h1 hb1 hbx hrx
    have AM := Lib.hid (fun W (hW : Debts W p L) => amounts_any p L cap W hW (amt_of_right hR) (by have := hR.len; omega))
    have htt := De.total_nonneg (fun d hd => (amt_of_right hR d hd).1)
    have htm := hR.tot
    clear hR
    go_enter Try.func31, Try.ntmps31
    go_wp2_with (first | (go_at_call 62; refine Calls.mono CL.out ?_; rintro e w1 ⟨p1, c1, rfl, hO1, hbl1⟩; have BX1 := Lib.hid (BX.out.below hbl1 (by simp <;> omega)); have RX1 := Lib.hid (RX.out.below hbl1 (by simp <;> omega)); have H2 := Lib.hid ((H1.out.below hbl1).below ((Below.refl _ _).alloc (Nat.le_refl _) (Obj.cells #[.int .i64 farm, .slice p1 L.length c1, .int .i64 next] 42))); have hs1 : w.heap.size + 1 < w1.heap.size := (by have := hbl1.size; simp at this; omega); obtain ⟨a0, a1, a2, -, -, -, hlt1⟩ := BX1.out; unfold accV) | (go_at_call 30; refine Calls.mono (CK.out _ H2.out) ?_; rintro e w3 ⟨rfl, hb3⟩; have hba := (Below.refl w1.heap.size w1).alloc (Nat.le_refl _) (Obj.cells #[.int .i64 farm, .slice p1 L.length c1, .int .i64 next] 42); have BX3 := Lib.hid ((BX1.out.below hba BX1.out.lt).below hb3 (by simp <;> omega)); have RX3 := Lib.hid ((RX1.out.below hba RX1.out.lt).below hb3 (by simp <;> omega)); have OX3 := Lib.hid ((BoxA.new w1 farm p1 L.length c1 next 42).below hb3 (by simp <;> omega)); have O3 := Lib.hid ((hO1.below hba).below hb3); have H3 := Lib.hid (H2.out.below hb3); have BB3 := Lib.hid (((B1.out.trans (hbl1.mono (by simp <;> omega))).alloc (by omega) _).trans (hb3.mono (by simp <;> omega))); obtain ⟨b0, b1, b2, -, -, -, blt⟩ := BX3.out; obtain ⟨o0, o1, o2, og0, og1, og2, olt⟩ := OX3.out; obtain ⟨r0, r1, r2, rg0, rg1, rg2, rlt⟩ := RX3.out) | (go_at_call 70; refine (dec39_any _ _).mono ?_; rintro e w' ⟨rfl, rfl⟩) | (go_at_call 63; refine (day39_any _ _).mono ?_; rintro e w' ⟨rfl, rfl⟩) | (go_at_call 69; refine (AM.out _ H3.out).mono ?_; rintro e w4 ⟨rfl, hb4⟩; obtain ⟨m0, m1, m2, -, -, -, mlt⟩ := BX3.out.below hb4 BX3.out.lt; obtain ⟨p0, p1', p2, pg0, pg1, pg2, plt⟩ := OX3.out.below hb4 OX3.out.lt; obtain ⟨q0, q1, q2, qg0, qg1, qg2, qlt⟩ := RX3.out.below hb4 RX3.out.lt))
    obtain ⟨pz, cz, ez, hz⟩ := ((O3.out.setTo (w.heap.size + 1) (by simp <;> omega) (.int .i64 farm) (.slice p1 L.length c1) (.int .i64 next)).mono (B' := w.heap.size) (by simp <;> omega)).lies (p0 := p) (bsetTo BB3.out (w.heap.size + 1) (by omega) (.int .i64 farm) (.slice p1 L.length c1) (.int .i64 next))
    cases ez
    exact bodyPost_ret (v := .tuple #[.agg #[.int .i64 farm, .slice p1 L.length c1, .int .i64 next], .int .i64 0, .int .i64 9]) (by simp [results, Try.results31, go_sem, r0, r1, r2]) rfl ⟨_, _, rfl, hz⟩
  · obtain ⟨v1, v2, v3⟩ := c_vals e (by omega)
    rw [e, v1, v2, v3]
    rw [c] at CK
    clear v1 v2 v3 e c h hc h1 hb1 hbx hrx
    have AM := Lib.hid (fun W (hW : Debts W p L) => amounts_any p L cap W hW (amt_of_right hR) (by have := hR.len; omega))
    have htt := De.total_nonneg (fun d hd => (amt_of_right hR d hd).1)
    have htm := hR.tot
    clear hR
    go_enter Try.func31, Try.ntmps31
    go_wp2_with (first | (go_at_call 62; refine Calls.mono CL.out ?_; rintro e w1 ⟨p1, c1, rfl, hO1, hbl1⟩; have BX1 := Lib.hid (BX.out.below hbl1 (by simp <;> omega)); have RX1 := Lib.hid (RX.out.below hbl1 (by simp <;> omega)); have H2 := Lib.hid ((H1.out.below hbl1).below ((Below.refl _ _).alloc (Nat.le_refl _) (Obj.cells #[.int .i64 farm, .slice p1 L.length c1, .int .i64 next] 42))); have hs1 : w.heap.size + 1 < w1.heap.size := (by have := hbl1.size; simp at this; omega); obtain ⟨a0, a1, a2, -, -, -, hlt1⟩ := BX1.out; unfold accV) | (go_at_call 30; refine Calls.mono (CK.out _ H2.out) ?_; rintro e w3 ⟨rfl, hb3⟩; have hba := (Below.refl w1.heap.size w1).alloc (Nat.le_refl _) (Obj.cells #[.int .i64 farm, .slice p1 L.length c1, .int .i64 next] 42); have BX3 := Lib.hid ((BX1.out.below hba BX1.out.lt).below hb3 (by simp <;> omega)); have RX3 := Lib.hid ((RX1.out.below hba RX1.out.lt).below hb3 (by simp <;> omega)); have OX3 := Lib.hid ((BoxA.new w1 farm p1 L.length c1 next 42).below hb3 (by simp <;> omega)); have O3 := Lib.hid ((hO1.below hba).below hb3); have H3 := Lib.hid (H2.out.below hb3); have BB3 := Lib.hid (((B1.out.trans (hbl1.mono (by simp <;> omega))).alloc (by omega) _).trans (hb3.mono (by simp <;> omega))); obtain ⟨b0, b1, b2, -, -, -, blt⟩ := BX3.out; obtain ⟨o0, o1, o2, og0, og1, og2, olt⟩ := OX3.out; obtain ⟨r0, r1, r2, rg0, rg1, rg2, rlt⟩ := RX3.out) | (go_at_call 70; refine (dec39_any _ _).mono ?_; rintro e w' ⟨rfl, rfl⟩) | (go_at_call 63; refine (day39_any _ _).mono ?_; rintro e w' ⟨rfl, rfl⟩) | (go_at_call 69; refine (AM.out _ H3.out).mono ?_; rintro e w4 ⟨rfl, hb4⟩; obtain ⟨m0, m1, m2, -, -, -, mlt⟩ := BX3.out.below hb4 BX3.out.lt; obtain ⟨p0, p1', p2, pg0, pg1, pg2, plt⟩ := OX3.out.below hb4 OX3.out.lt; obtain ⟨q0, q1, q2, qg0, qg1, qg2, qlt⟩ := RX3.out.below hb4 RX3.out.lt))
    obtain ⟨pz, cz, ez, hz⟩ := ((O3.out.setTo (w.heap.size + 1) (by simp <;> omega) (.int .i64 farm) (.slice p1 L.length c1) (.int .i64 next)).mono (B' := w.heap.size) (by simp <;> omega)).lies (p0 := p) (bsetTo BB3.out (w.heap.size + 1) (by omega) (.int .i64 farm) (.slice p1 L.length c1) (.int .i64 next))
    cases ez
    exact bodyPost_ret (v := .tuple #[.agg #[.int .i64 farm, .slice p1 L.length c1, .int .i64 next], .int .i64 0, .int .i64 67]) (by simp [results, Try.results31, go_sem, r0, r1, r2]) rfl ⟨_, _, rfl, hz⟩
  · obtain ⟨v1, v2, v3⟩ := c_vals e (by omega)
    rw [e, v1, v2, v3]
    rw [c] at CK
    clear v1 v2 v3 e c h hc h1 hb1 hbx hrx
    have AM := Lib.hid (fun W (hW : Debts W p L) => amounts_any p L cap W hW (amt_of_right hR) (by have := hR.len; omega))
    have htt := De.total_nonneg (fun d hd => (amt_of_right hR d hd).1)
    have htm := hR.tot
    clear hR
    go_enter Try.func31, Try.ntmps31
    go_wp2_with (first | (go_at_call 62; refine Calls.mono CL.out ?_; rintro e w1 ⟨p1, c1, rfl, hO1, hbl1⟩; have BX1 := Lib.hid (BX.out.below hbl1 (by simp <;> omega)); have RX1 := Lib.hid (RX.out.below hbl1 (by simp <;> omega)); have H2 := Lib.hid ((H1.out.below hbl1).below ((Below.refl _ _).alloc (Nat.le_refl _) (Obj.cells #[.int .i64 farm, .slice p1 L.length c1, .int .i64 next] 42))); have hs1 : w.heap.size + 1 < w1.heap.size := (by have := hbl1.size; simp at this; omega); obtain ⟨a0, a1, a2, -, -, -, hlt1⟩ := BX1.out; unfold accV) | (go_at_call 30; refine Calls.mono (CK.out _ H2.out) ?_; rintro e w3 ⟨rfl, hb3⟩; have hba := (Below.refl w1.heap.size w1).alloc (Nat.le_refl _) (Obj.cells #[.int .i64 farm, .slice p1 L.length c1, .int .i64 next] 42); have BX3 := Lib.hid ((BX1.out.below hba BX1.out.lt).below hb3 (by simp <;> omega)); have RX3 := Lib.hid ((RX1.out.below hba RX1.out.lt).below hb3 (by simp <;> omega)); have OX3 := Lib.hid ((BoxA.new w1 farm p1 L.length c1 next 42).below hb3 (by simp <;> omega)); have O3 := Lib.hid ((hO1.below hba).below hb3); have H3 := Lib.hid (H2.out.below hb3); have BB3 := Lib.hid (((B1.out.trans (hbl1.mono (by simp <;> omega))).alloc (by omega) _).trans (hb3.mono (by simp <;> omega))); obtain ⟨b0, b1, b2, -, -, -, blt⟩ := BX3.out; obtain ⟨o0, o1, o2, og0, og1, og2, olt⟩ := OX3.out; obtain ⟨r0, r1, r2, rg0, rg1, rg2, rlt⟩ := RX3.out) | (go_at_call 70; refine (dec39_any _ _).mono ?_; rintro e w' ⟨rfl, rfl⟩) | (go_at_call 63; refine (day39_any _ _).mono ?_; rintro e w' ⟨rfl, rfl⟩) | (go_at_call 69; refine (AM.out _ H3.out).mono ?_; rintro e w4 ⟨rfl, hb4⟩; obtain ⟨m0, m1, m2, -, -, -, mlt⟩ := BX3.out.below hb4 BX3.out.lt; obtain ⟨p0, p1', p2, pg0, pg1, pg2, plt⟩ := OX3.out.below hb4 OX3.out.lt; obtain ⟨q0, q1, q2, qg0, qg1, qg2, qlt⟩ := RX3.out.below hb4 RX3.out.lt))
    obtain ⟨pz, cz, ez, hz⟩ := ((O3.out.setTo (w.heap.size + 1) (by simp <;> omega) (.int .i64 farm) (.slice p1 L.length c1) (.int .i64 next)).mono (B' := w.heap.size) (by simp <;> omega)).lies (p0 := p) (bsetTo BB3.out (w.heap.size + 1) (by omega) (.int .i64 farm) (.slice p1 L.length c1) (.int .i64 next))
    cases ez
    exact bodyPost_ret (v := .tuple #[.agg #[.int .i64 farm, .slice p1 L.length c1, .int .i64 next], .int .i64 0, .int .i64 67]) (by simp [results, Try.results31, go_sem, r0, r1, r2]) rfl ⟨_, _, rfl, hz⟩
  · obtain ⟨v1, v2, v3⟩ := c_vals e (by omega)
    rw [e, v1, v2, v3]
    rw [c] at CK
    clear v1 v2 v3 e c h hc h1 hb1 hbx hrx
    have AM := Lib.hid (fun W (hW : Debts W p L) => amounts_any p L cap W hW (amt_of_right hR) (by have := hR.len; omega))
    have htt := De.total_nonneg (fun d hd => (amt_of_right hR d hd).1)
    have htm := hR.tot
    clear hR
    go_enter Try.func31, Try.ntmps31
    go_wp2_with (first | (go_at_call 62; refine Calls.mono CL.out ?_; rintro e w1 ⟨p1, c1, rfl, hO1, hbl1⟩; have BX1 := Lib.hid (BX.out.below hbl1 (by simp <;> omega)); have RX1 := Lib.hid (RX.out.below hbl1 (by simp <;> omega)); have H2 := Lib.hid ((H1.out.below hbl1).below ((Below.refl _ _).alloc (Nat.le_refl _) (Obj.cells #[.int .i64 farm, .slice p1 L.length c1, .int .i64 next] 42))); have hs1 : w.heap.size + 1 < w1.heap.size := (by have := hbl1.size; simp at this; omega); obtain ⟨a0, a1, a2, -, -, -, hlt1⟩ := BX1.out; unfold accV) | (go_at_call 30; refine Calls.mono (CK.out _ H2.out) ?_; rintro e w3 ⟨rfl, hb3⟩; have hba := (Below.refl w1.heap.size w1).alloc (Nat.le_refl _) (Obj.cells #[.int .i64 farm, .slice p1 L.length c1, .int .i64 next] 42); have BX3 := Lib.hid ((BX1.out.below hba BX1.out.lt).below hb3 (by simp <;> omega)); have RX3 := Lib.hid ((RX1.out.below hba RX1.out.lt).below hb3 (by simp <;> omega)); have OX3 := Lib.hid ((BoxA.new w1 farm p1 L.length c1 next 42).below hb3 (by simp <;> omega)); have O3 := Lib.hid ((hO1.below hba).below hb3); have H3 := Lib.hid (H2.out.below hb3); have BB3 := Lib.hid (((B1.out.trans (hbl1.mono (by simp <;> omega))).alloc (by omega) _).trans (hb3.mono (by simp <;> omega))); obtain ⟨b0, b1, b2, -, -, -, blt⟩ := BX3.out; obtain ⟨o0, o1, o2, og0, og1, og2, olt⟩ := OX3.out; obtain ⟨r0, r1, r2, rg0, rg1, rg2, rlt⟩ := RX3.out) | (go_at_call 70; refine (dec39_any _ _).mono ?_; rintro e w' ⟨rfl, rfl⟩) | (go_at_call 63; refine (day39_any _ _).mono ?_; rintro e w' ⟨rfl, rfl⟩) | (go_at_call 69; refine (AM.out _ H3.out).mono ?_; rintro e w4 ⟨rfl, hb4⟩; obtain ⟨m0, m1, m2, -, -, -, mlt⟩ := BX3.out.below hb4 BX3.out.lt; obtain ⟨p0, p1', p2, pg0, pg1, pg2, plt⟩ := OX3.out.below hb4 OX3.out.lt; obtain ⟨q0, q1, q2, qg0, qg1, qg2, qlt⟩ := RX3.out.below hb4 RX3.out.lt))
    obtain ⟨pz, cz, ez, hz⟩ := (((O3.out.below hb4).setTo (w.heap.size + 1) (by simp <;> omega) (.int .i64 farm) (.slice p1 L.length c1) (.int .i64 next)).mono (B' := w.heap.size) (by simp <;> omega)).lies (p0 := p) (bsetTo (bstep (Nat.le_refl _) BB3.out hb4) (w.heap.size + 1) (by omega) (.int .i64 farm) (.slice p1 L.length c1) (.int .i64 next))
    cases ez
    exact bodyPost_ret (v := .tuple #[.agg #[.int .i64 farm, .slice p1 L.length c1, .int .i64 next], .int .i64 0, .int .i64 67]) (by simp [results, Try.results31, go_sem, q0, q1, q2]) rfl ⟨_, _, rfl, hz⟩
  · obtain ⟨v1, v2, v3⟩ := c_vals e (by omega)
    rw [e, v1, v2, v3]
    rw [c] at CK
    clear v1 v2 v3 e c h hc h1 hb1 hbx hrx
    have AM := Lib.hid (fun W (hW : Debts W p L) => amounts_any p L cap W hW (amt_of_right hR) (by have := hR.len; omega))
    have htt := De.total_nonneg (fun d hd => (amt_of_right hR d hd).1)
    have htm := hR.tot
    clear hR
    go_enter Try.func31, Try.ntmps31
    go_wp2_with (first | (go_at_call 62; refine Calls.mono CL.out ?_; rintro e w1 ⟨p1, c1, rfl, hO1, hbl1⟩; have BX1 := Lib.hid (BX.out.below hbl1 (by simp <;> omega)); have RX1 := Lib.hid (RX.out.below hbl1 (by simp <;> omega)); have H2 := Lib.hid ((H1.out.below hbl1).below ((Below.refl _ _).alloc (Nat.le_refl _) (Obj.cells #[.int .i64 farm, .slice p1 L.length c1, .int .i64 next] 42))); have hs1 : w.heap.size + 1 < w1.heap.size := (by have := hbl1.size; simp at this; omega); obtain ⟨a0, a1, a2, -, -, -, hlt1⟩ := BX1.out; unfold accV) | (go_at_call 30; refine Calls.mono (CK.out _ H2.out) ?_; rintro e w3 ⟨rfl, hb3⟩; have hba := (Below.refl w1.heap.size w1).alloc (Nat.le_refl _) (Obj.cells #[.int .i64 farm, .slice p1 L.length c1, .int .i64 next] 42); have BX3 := Lib.hid ((BX1.out.below hba BX1.out.lt).below hb3 (by simp <;> omega)); have RX3 := Lib.hid ((RX1.out.below hba RX1.out.lt).below hb3 (by simp <;> omega)); have OX3 := Lib.hid ((BoxA.new w1 farm p1 L.length c1 next 42).below hb3 (by simp <;> omega)); have O3 := Lib.hid ((hO1.below hba).below hb3); have H3 := Lib.hid (H2.out.below hb3); have BB3 := Lib.hid (((B1.out.trans (hbl1.mono (by simp <;> omega))).alloc (by omega) _).trans (hb3.mono (by simp <;> omega))); obtain ⟨b0, b1, b2, -, -, -, blt⟩ := BX3.out; obtain ⟨o0, o1, o2, og0, og1, og2, olt⟩ := OX3.out; obtain ⟨r0, r1, r2, rg0, rg1, rg2, rlt⟩ := RX3.out) | (go_at_call 70; refine (dec39_any _ _).mono ?_; rintro e w' ⟨rfl, rfl⟩) | (go_at_call 63; refine (day39_any _ _).mono ?_; rintro e w' ⟨rfl, rfl⟩) | (go_at_call 69; refine (AM.out _ H3.out).mono ?_; rintro e w4 ⟨rfl, hb4⟩; obtain ⟨m0, m1, m2, -, -, -, mlt⟩ := BX3.out.below hb4 BX3.out.lt; obtain ⟨p0, p1', p2, pg0, pg1, pg2, plt⟩ := OX3.out.below hb4 OX3.out.lt; obtain ⟨q0, q1, q2, qg0, qg1, qg2, qlt⟩ := RX3.out.below hb4 RX3.out.lt))
    obtain ⟨pz, cz, ez, hz⟩ := (((O3.out.below hb4).setTo (w.heap.size + 1) (by simp <;> omega) (.int .i64 farm) (.slice p1 L.length c1) (.int .i64 next)).mono (B' := w.heap.size) (by simp <;> omega)).lies (p0 := p) (bsetTo (bstep (Nat.le_refl _) BB3.out hb4) (w.heap.size + 1) (by omega) (.int .i64 farm) (.slice p1 L.length c1) (.int .i64 next))
    cases ez
    exact bodyPost_ret (v := .tuple #[.agg #[.int .i64 farm, .slice p1 L.length c1, .int .i64 next], .int .i64 0, .int .i64 73]) (by simp [results, Try.results31, go_sem, q0, q1, q2]) rfl ⟨_, _, rfl, hz⟩
  · obtain ⟨v1, v2, v3⟩ := c_vals e (by omega)
    rw [e, v1, v2, v3]
    rw [c] at CK
    clear v1 v2 v3 e c h hc h1 hb1 hbx hrx
    have AM := Lib.hid (fun W (hW : Debts W p L) => amounts_any p L cap W hW (amt_of_right hR) (by have := hR.len; omega))
    have htt := De.total_nonneg (fun d hd => (amt_of_right hR d hd).1)
    have htm := hR.tot
    clear hR
    go_enter Try.func31, Try.ntmps31
    go_wp2_with (first | (go_at_call 62; refine Calls.mono CL.out ?_; rintro e w1 ⟨p1, c1, rfl, hO1, hbl1⟩; have BX1 := Lib.hid (BX.out.below hbl1 (by simp <;> omega)); have RX1 := Lib.hid (RX.out.below hbl1 (by simp <;> omega)); have H2 := Lib.hid ((H1.out.below hbl1).below ((Below.refl _ _).alloc (Nat.le_refl _) (Obj.cells #[.int .i64 farm, .slice p1 L.length c1, .int .i64 next] 42))); have hs1 : w.heap.size + 1 < w1.heap.size := (by have := hbl1.size; simp at this; omega); obtain ⟨a0, a1, a2, -, -, -, hlt1⟩ := BX1.out; unfold accV) | (go_at_call 30; refine Calls.mono (CK.out _ H2.out) ?_; rintro e w3 ⟨rfl, hb3⟩; have hba := (Below.refl w1.heap.size w1).alloc (Nat.le_refl _) (Obj.cells #[.int .i64 farm, .slice p1 L.length c1, .int .i64 next] 42); have BX3 := Lib.hid ((BX1.out.below hba BX1.out.lt).below hb3 (by simp <;> omega)); have RX3 := Lib.hid ((RX1.out.below hba RX1.out.lt).below hb3 (by simp <;> omega)); have OX3 := Lib.hid ((BoxA.new w1 farm p1 L.length c1 next 42).below hb3 (by simp <;> omega)); have O3 := Lib.hid ((hO1.below hba).below hb3); have H3 := Lib.hid (H2.out.below hb3); have BB3 := Lib.hid (((B1.out.trans (hbl1.mono (by simp <;> omega))).alloc (by omega) _).trans (hb3.mono (by simp <;> omega))); obtain ⟨b0, b1, b2, -, -, -, blt⟩ := BX3.out; obtain ⟨o0, o1, o2, og0, og1, og2, olt⟩ := OX3.out; obtain ⟨r0, r1, r2, rg0, rg1, rg2, rlt⟩ := RX3.out) | (go_at_call 70; refine (dec39_any _ _).mono ?_; rintro e w' ⟨rfl, rfl⟩) | (go_at_call 63; refine (day39_any _ _).mono ?_; rintro e w' ⟨rfl, rfl⟩) | (go_at_call 69; refine (AM.out _ H3.out).mono ?_; rintro e w4 ⟨rfl, hb4⟩; obtain ⟨m0, m1, m2, -, -, -, mlt⟩ := BX3.out.below hb4 BX3.out.lt; obtain ⟨p0, p1', p2, pg0, pg1, pg2, plt⟩ := OX3.out.below hb4 OX3.out.lt; obtain ⟨q0, q1, q2, qg0, qg1, qg2, qlt⟩ := RX3.out.below hb4 RX3.out.lt))
    obtain ⟨pz, cz, ez, hz⟩ := (((O3.out.below hb4).setTo (w.heap.size + 1) (by simp <;> omega) (.int .i64 farm) (.slice p1 L.length c1) (.int .i64 next)).mono (B' := w.heap.size) (by simp <;> omega)).lies (p0 := p) (bsetTo (bstep (Nat.le_refl _) BB3.out hb4) (w.heap.size + 1) (by omega) (.int .i64 farm) (.slice p1 L.length c1) (.int .i64 next))
    cases ez
    exact bodyPost_ret (v := .tuple #[.agg #[.int .i64 farm, .slice p1 L.length c1, .int .i64 next], .int .i64 0, .int .i64 73]) (by simp [results, Try.results31, go_sem, q0, q1, q2]) rfl ⟨_, _, rfl, hz⟩
  · exact absurd e he

end Go.Proofs.Ytdnddikchchdkaa
