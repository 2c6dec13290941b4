/-
  MERGED (merge39.py): D18, D35 and THE INNER ROUND of law39.DebtAnswers.
-/
import Derived.Test.YtdnddikchchdkaaD40
import Derived.Test.YtdnddikchchdkaaD8
import Derived.Test.YtdnddikchchdkaaD20
import Derived.Test.YtdnddikchchdkaaD21
import Derived.Test.YtdnddikchchdkaaD24
import Derived.Deep.DeepCutAuto
namespace Go.Proofs.Ytdnddikchchdkaa
open Go.RowKit

set_option maxRecDepth 100000 in
set_option maxHeartbeats 8000000 in
theorem charge39_new (farm next : Int) (p : Option Addr) (L : List De.Dbt) (cap : Nat) (of due amount : Int) (w : World) (h : Debts w p L) (hc : p = none → cap = 0) (hl : L.length ≤ 1000000) (hR : De.Right farm L next) (d1 : De.decB of = true) (d2 : De.dayB due = true) (d3 : 1 ≤ amount) (d4 : amount ≤ 68719476736) (d5 : De.total L + amount ≤ 68719476736) (d6 : ((L.length : Int) == 40) = false) (d7 : (next == 1125899906842624) = false) (e : De.cErr farm L next of due amount = 0) :
    Calls Try.prog 31 #[accV farm p L.length cap next, .int .i64 of, .int .i64 due, .int .i64 amount] w (CGive w farm none (De.cList farm L next of due amount) (De.cNext farm L next of due amount) (De.cNum farm L next of due amount) (De.cErr farm L next of due amount)) := by
  have hn := h.len
  have hb1 : Below w.heap.size w ((w.alloc (Obj.cells #[.int .i64 farm, .slice p L.length cap, .int .i64 next] 42)).alloc (Obj.cells #[.int .i64 0, .slice none 0 0, .int .i64 0] 42)) := ((Below.refl w.heap.size w).alloc (Nat.le_refl _) _).alloc (by simp <;> omega) _
  have B1 := Lib.hid hb1
  have h1 := h.below hb1
  have CL := Lib.hid (clone39_any farm next p L cap ((w.alloc (Obj.cells #[.int .i64 farm, .slice p L.length cap, .int .i64 next] 42)).alloc (Obj.cells #[.int .i64 0, .slice none 0 0, .int .i64 0] 42)) h1 hc hl)
  have CK := Lib.hid (fun (W : World) (hW : Debts W p L) => check39_any farm next p L cap W hW)
  have H1 := Lib.hid h1
  have hbx : BoxA ((w.alloc (Obj.cells #[.int .i64 farm, .slice p L.length cap, .int .i64 next] 42)).alloc (Obj.cells #[.int .i64 0, .slice none 0 0, .int .i64 0] 42)) w.heap.size farm p L.length cap next := (BoxA.new w farm p L.length cap next 42).below ((Below.refl _ _).alloc (Nat.le_refl _) _) (by simp <;> omega)
  have hrx : BoxA ((w.alloc (Obj.cells #[.int .i64 farm, .slice p L.length cap, .int .i64 next] 42)).alloc (Obj.cells #[.int .i64 0, .slice none 0 0, .int .i64 0] 42)) (w.heap.size + 1) 0 none 0 0 0 := by
    have := BoxA.new (w.alloc (Obj.cells #[.int .i64 farm, .slice p L.length cap, .int .i64 next] 42)) 0 none 0 0 0 42
    rw [World.size_alloc] at this
    exact this
  have BX := Lib.hid hbx
  have RX := Lib.hid hrx
  unfold accV at CL CK ⊢
  obtain ⟨v1, v2, v3⟩ := c_vals0 e
  rw [e, v1, v2, v3]
  have c := De.chk_ok hR
  rw [c] at CK
  clear v1 v2 v3 e c h hc h1 hb1 hbx hrx
  have AM := Lib.hid (fun W (hW : Debts W p L) => amounts_any p L cap W hW (amt_of_right hR) (by have := hR.len; omega))
  have htt := De.total_nonneg (fun d hd => (amt_of_right hR d hd).1)
  have htm := hR.tot
  obtain ⟨nx1, nx2⟩ := hR.nx
  clear hR
  go_enter Try.func31, Try.ntmps31
  go_wp2_with (first | (go_at_call 62; refine Calls.mono CL.out ?_; rintro e w1 ⟨p1, c1, rfl, hO1, hbl1⟩; have BX1 := Lib.hid (BX.out.below hbl1 (by simp <;> omega)); have RX1 := Lib.hid (RX.out.below hbl1 (by simp <;> omega)); have H2 := Lib.hid ((H1.out.below hbl1).below ((Below.refl _ _).alloc (Nat.le_refl _) (Obj.cells #[.int .i64 farm, .slice p1 L.length c1, .int .i64 next] 42))); have hs1 : w.heap.size + 1 < w1.heap.size := (by have := hbl1.size; simp at this; omega); obtain ⟨a0, a1, a2, -, -, -, hlt1⟩ := BX1.out; unfold accV) | (go_at_call 30; refine Calls.mono (CK.out _ H2.out) ?_; rintro e w3 ⟨rfl, hb3⟩; have hba := (Below.refl w1.heap.size w1).alloc (Nat.le_refl _) (Obj.cells #[.int .i64 farm, .slice p1 L.length c1, .int .i64 next] 42); have BX3 := Lib.hid ((BX1.out.below hba BX1.out.lt).below hb3 (by simp <;> omega)); have RX3 := Lib.hid ((RX1.out.below hba RX1.out.lt).below hb3 (by simp <;> omega)); have OX3 := Lib.hid ((BoxA.new w1 farm p1 L.length c1 next 42).below hb3 (by simp <;> omega)); have O3 := Lib.hid ((hO1.below hba).below hb3); have H3 := Lib.hid (H2.out.below hb3); have BB3 := Lib.hid (((B1.out.trans (hbl1.mono (by simp <;> omega))).alloc (by omega) _).trans (hb3.mono (by simp <;> omega))); obtain ⟨b0, b1, b2, -, -, -, blt⟩ := BX3.out; obtain ⟨o0, o1, o2, og0, og1, og2, olt⟩ := OX3.out; obtain ⟨r0, r1, r2, rg0, rg1, rg2, rlt⟩ := RX3.out) | (go_at_call 70; refine (dec39_any _ _).mono ?_; rintro e w' ⟨rfl, rfl⟩) | (go_at_call 63; refine (day39_any _ _).mono ?_; rintro e w' ⟨rfl, rfl⟩) | (go_at_call 69; refine (AM.out _ H3.out).mono ?_; rintro e w4 ⟨rfl, hb4⟩; obtain ⟨m0, m1, m2, -, -, -, mlt⟩ := BX3.out.below hb4 BX3.out.lt; obtain ⟨p0, p1', p2, pg0, pg1, pg2, plt⟩ := OX3.out.below hb4 OX3.out.lt; obtain ⟨q0, q1, q2, qg0, qg1, qg2, qlt⟩ := RX3.out.below hb4 RX3.out.lt) | (at_builtin; (refine OwnR.append el_dbt rfl (.tmp 59) (.tmp 67) rfl ((w.alloc (Obj.cells #[.int .i64 farm, .slice p L.length cap, .int .i64 next] 42)).alloc (Obj.cells #[.int .i64 0, .slice none 0 0, .int .i64 0] 42)).heap.size (.slice p1 L.length c1) L ⟨next, of, due, amount, amount⟩ #[.int .i64 next, .int .i64 of, .int .i64 due, .int .i64 amount, .int .i64 amount] rfl (O3.out.below hb4) rfl rfl (by have := hb4.size; simp <;> omega) (by omega) (by decide) ?_); intro v5 w5 hO5 hap5; obtain ⟨p5, c5, rfl⟩ := hO5.sl; obtain ⟨s0, s1, s2, -, -, -, slt⟩ := (BX3.out.below hb4 BX3.out.lt).far hap5 (hO1.notBlock (by simp <;> omega)); obtain ⟨t0, t1, t2, tg0, tg1, tg2, tlt⟩ := (OX3.out.below hb4 OX3.out.lt).far hap5 (fun e => by have := (hO1.lt e).2; omega); obtain ⟨u0, u1, u2, ug0, ug1, ug2, ult⟩ := (RX3.out.below hb4 RX3.out.lt).far hap5 (hO1.notBlock (by simp <;> omega))))
  have h5 := hO5.notBlock (b := w.heap.size + 1) (by simp <;> omega)
  have h6 : (Value.slice p5 (L ++ [(⟨next, of, due, amount, amount⟩ : De.Dbt)]).length c5).ownBlock ≠ some w1.heap.size := fun e => by
    rcases hap5.block with e2 | e2
    · rw [e2] at e
      have := (hO1.lt e).2
      omega
    · rw [e2] at e
      have := hb4.size
      have := hb3.size
      simp only [World.size_alloc, Option.some.injEq] at *
      omega
  have OF := Lib.hid (((((hO5.setOther h6 (.slice p5 (L.length + 1) c5) (i := 1)).setOther h6 (.int .i64 (next + 1)) (i := 2)).drew).setTo (w.heap.size + 1) (by simp <;> omega) (.int .i64 farm) (.slice p5 (L.length + 1) c5) (.int .i64 (next + 1))).mono (B' := w.heap.size) (by simp <;> omega))
  have BF0 : Below w.heap.size w w5 := (bstep (Nat.le_refl _) BB3.out hb4).trans (hap5.below.mono (by simp <;> omega))
  have BF := Lib.hid (bsetTo (bstep (Nat.le_refl _) ((BF0.setCell (p := ⟨w1.heap.size, 1, none⟩) (by simp <;> omega) (.slice p5 (L.length + 1) c5)).setCell (p := ⟨w1.heap.size, 2, none⟩) (by simp <;> omega) (.int .i64 (next + 1))) (drewN_below _ 1)) (w.heap.size + 1) (by omega) (.int .i64 farm) (.slice p5 (L.length + 1) c5) (.int .i64 (next + 1)))
  clear h5 h6 BF0 hO5 hap5 hO1 hb3 hb4
  have k0 : ((w5.setCell { block := w1.heap.size, off := 1 } (Value.slice p5 (L.length + 1) c5)).setCell { block := w1.heap.size, off := 2 } (Value.int IntKind.i64 (next + 1))).cell? ⟨w1.heap.size, 0, none⟩ = some (.int .i64 farm) := by go_simp
  have k1 : ((w5.setCell { block := w1.heap.size, off := 1 } (Value.slice p5 (L.length + 1) c5)).setCell { block := w1.heap.size, off := 2 } (Value.int IntKind.i64 (next + 1))).cell? ⟨w1.heap.size, 1, none⟩ = some (.slice p5 (L.length + 1) c5) := by go_simp
  have k2 : ((w5.setCell { block := w1.heap.size, off := 1 } (Value.slice p5 (L.length + 1) c5)).setCell { block := w1.heap.size, off := 2 } (Value.int IntKind.i64 (next + 1))).cell? ⟨w1.heap.size, 2, none⟩ = some (.int .i64 (next + 1)) := by go_simp
  have k3 : ((w5.setCell { block := w1.heap.size, off := 1 } (Value.slice p5 (L.length + 1) c5)).setCell { block := w1.heap.size, off := 2 } (Value.int IntKind.i64 (next + 1))).cell? ⟨w.heap.size, 2, none⟩ = some (.int .i64 next) := by go_simp
  have y0 : ((w5.setCell { block := w1.heap.size, off := 1 } (Value.slice p5 (L.length + 1) c5)).setCell { block := w1.heap.size, off := 2 } (Value.int IntKind.i64 (next + 1))).cell? ⟨w.heap.size + 1, 0, none⟩ = some (.int .i64 0) := by go_simp
  have y1 : ((w5.setCell { block := w1.heap.size, off := 1 } (Value.slice p5 (L.length + 1) c5)).setCell { block := w1.heap.size, off := 2 } (Value.int IntKind.i64 (next + 1))).cell? ⟨w.heap.size + 1, 1, none⟩ = some (.slice none 0 0) := by go_simp
  have y2 : ((w5.setCell { block := w1.heap.size, off := 1 } (Value.slice p5 (L.length + 1) c5)).setCell { block := w1.heap.size, off := 2 } (Value.int IntKind.i64 (next + 1))).cell? ⟨w.heap.size + 1, 2, none⟩ = some (.int .i64 0) := by go_simp
  have z0 : ((w5.setCell { block := w1.heap.size, off := 1 } (Value.slice p5 (L.length + 1) c5)).setCell { block := w1.heap.size, off := 2 } (Value.int IntKind.i64 (next + 1))).frozen? ⟨w.heap.size + 1, 0, none⟩ = false := by go_simp
  have z1 : ((w5.setCell { block := w1.heap.size, off := 1 } (Value.slice p5 (L.length + 1) c5)).setCell { block := w1.heap.size, off := 2 } (Value.int IntKind.i64 (next + 1))).frozen? ⟨w.heap.size + 1, 1, none⟩ = false := by go_simp
  have z2 : ((w5.setCell { block := w1.heap.size, off := 1 } (Value.slice p5 (L.length + 1) c5)).setCell { block := w1.heap.size, off := 2 } (Value.int IntKind.i64 (next + 1))).frozen? ⟨w.heap.size + 1, 2, none⟩ = false := by go_simp
  obtain ⟨W, hW⟩ : ∃ W : World, ((w5.setCell { block := w1.heap.size, off := 1 } (Value.slice p5 (L.length + 1) c5)).setCell { block := w1.heap.size, off := 2 } (Value.int IntKind.i64 (next + 1))) = W := ⟨_, rfl⟩
  have hne1 : w1.heap.size ≠ w.heap.size + 1 := by omega
  have hne2 : w.heap.size + 1 ≠ w1.heap.size := by omega
  rw [hW] at OF BF k0 k1 k2 k3 y0 y1 y2 z0 z1 z2 ⊢
  clear hW s0 s1 s2 t0 t1 t2 tg0 tg1 tg2 u0 u1 u2 ug0 ug1 ug2 slt tlt ult
  go_region_held3 (fun w' => w'.cell? ⟨w1.heap.size, 0, none⟩ = some (.int .i64 farm) ∧ w'.cell? ⟨w1.heap.size, 1, none⟩ = some (.slice p5 (L.length + 1) c5) ∧ w'.cell? ⟨w1.heap.size, 2, none⟩ = some (.int .i64 (next + 1)) ∧ w'.cell? ⟨w.heap.size, 2, none⟩ = some (.int .i64 next)) (first | exact ⟨k0, k1, k2, k3⟩ | go_keep | exact ⟨by go_simp, by go_simp, by go_simp, by go_simp⟩) (fail)
  go_wp2
  have hlen : L.length + 1 = (L ++ [(⟨next, of, due, amount, amount⟩ : De.Dbt)]).length := by simp
  obtain ⟨pz, cz, ez, hz⟩ := OF.out.lies (p0 := none) BF.out
  cases ez
  exact bodyPost_ret (v := .tuple #[.agg #[.int .i64 farm, .slice p5 (L.length + 1) c5, .int .i64 (next + 1)], .int .i64 next, .int .i64 0]) (by simp [results, Try.results31, go_sem, y0, y1, y2]) rfl ⟨_, _, by unfold accV; rw [← hlen], hz⟩

set_option maxRecDepth 100000 in
set_option maxHeartbeats 8000000 in
theorem refcharge39_new (farm next : Int) (p : Option Addr) (L : List De.Dbt) (cap : Nat) (of due amount : Int) (w : World) (h : Debts w p L) (hc : p = none → cap = 0) (hl : L.length ≤ 1000000) (hR : De.Right farm L next) (d1 : De.decB of = true) (d2 : De.dayB due = true) (d3 : 1 ≤ amount) (d4 : amount ≤ 68719476736) (d5 : De.total L + amount ≤ 68719476736) (d6 : ((L.length : Int) == 40) = false) (d7 : (next == 1125899906842624) = false) (e : De.cErr farm L next of due amount = 0) :
    Calls Try.prog 38 #[accV farm p L.length cap next, .int .i64 of, .int .i64 due, .int .i64 amount] w (CGive w farm none (De.cList farm L next of due amount) (De.cNext farm L next of due amount) (De.cNum farm L next of due amount) (De.cErr farm L next of due amount)) := by
  have hn := h.len
  have hb1 : Below w.heap.size w ((w.alloc (Obj.cells #[.int .i64 farm, .slice p L.length cap, .int .i64 next] 42)).alloc (Obj.cells #[.int .i64 0, .slice none 0 0, .int .i64 0] 42)) := ((Below.refl w.heap.size w).alloc (Nat.le_refl _) _).alloc (by simp) _
  have B1 := Lib.hid hb1
  have h1 := h.below hb1
  have CK := Lib.hid (fun (W : World) (hW : Debts W p L) => refcheck39_any farm next p L cap W hW)
  have H1 := Lib.hid h1
  have HC := Lib.hid hc
  have H0 := Lib.hid h
  have hbx : BoxA ((w.alloc (Obj.cells #[.int .i64 farm, .slice p L.length cap, .int .i64 next] 42)).alloc (Obj.cells #[.int .i64 0, .slice none 0 0, .int .i64 0] 42)) w.heap.size farm p L.length cap next := (BoxA.new w farm p L.length cap next 42).below ((Below.refl _ _).alloc (Nat.le_refl _) _) (by simp)
  have hrx : BoxA ((w.alloc (Obj.cells #[.int .i64 farm, .slice p L.length cap, .int .i64 next] 42)).alloc (Obj.cells #[.int .i64 0, .slice none 0 0, .int .i64 0] 42)) (w.heap.size + 1) 0 none 0 0 0 := by
    have := BoxA.new (w.alloc (Obj.cells #[.int .i64 farm, .slice p L.length cap, .int .i64 next] 42)) 0 none 0 0 0 42
    rw [World.size_alloc] at this
    exact this
  have BX := Lib.hid hbx
  have RX := Lib.hid hrx
  unfold accV at CK
  unfold accV
  obtain ⟨v1, v2, v3⟩ := c_vals0 e
  rw [e, v1, v2, v3]
  have c := De.chk_ok hR
  rw [c] at CK
  clear v1 v2 v3 e c h h1 hb1 hbx hrx
  have SM := Lib.hid (fun W (hW : Debts W p L) => refsum39_any farm next p L cap W hW (amt_of_right hR) (by have := hR.len; omega))
  have CP := Lib.hid (fun W (hW : Debts W p L) => copied39_any farm next p L cap W hW hc hl)
  unfold accV at SM CP
  have htt := De.total_nonneg (fun d hd => (amt_of_right hR d hd).1)
  have htm := hR.tot
  obtain ⟨nx1, nx2⟩ := hR.nx
  obtain ⟨g1, g2⟩ := De.decB_iff.1 d1
  obtain ⟨g3, g4⟩ := De.dayB_iff.1 d2
  clear hR hc
  go_enter Try.func38, Try.ntmps38
  go_wp2_with (first | (go_at_call 36; refine Calls.mono (CK.out _ H1.out) ?_; rintro e w2 ⟨rfl, hb2⟩; have BX2 := Lib.hid (BX.out.below hb2 BX.out.lt); have RX2 := Lib.hid (RX.out.below hb2 RX.out.lt); have H2 := Lib.hid (H1.out.below hb2); have BB2 := Lib.hid (B1.out.trans (hb2.mono (by simp <;> omega))); obtain ⟨b0, b1, b2, -, -, -, blt⟩ := BX2.out; obtain ⟨r0, r1, r2, rg0, rg1, rg2, rlt⟩ := RX2.out) | (go_at_call 71; refine Calls.mono (SM.out _ H2.out) ?_; rintro e w3 ⟨rfl, hb3⟩; have BX3 := Lib.hid (BX2.out.below hb3 BX2.out.lt); have RX3 := Lib.hid (RX2.out.below hb3 RX2.out.lt); have H3 := Lib.hid (H2.out.below hb3); have BB3 := Lib.hid (bstep (Nat.le_refl _) BB2.out hb3); clear b0 b1 b2 blt r0 r1 r2 rg0 rg1 rg2 rlt; obtain ⟨b0, b1, b2, -, -, -, blt⟩ := BX3.out; obtain ⟨r0, r1, r2, rg0, rg1, rg2, rlt⟩ := RX3.out) | (go_at_call 72; refine Calls.mono (CP.out _ H3.out) ?_; rintro e w4 ⟨p1, c1, rfl, hO1, hb4⟩; have BX4 := Lib.hid (BX3.out.below hb4 BX3.out.lt); have RX4 := Lib.hid (RX3.out.below hb4 RX3.out.lt); have BB4 := Lib.hid (bstep (Nat.le_refl _) BB3.out hb4); have hs4 := hb4.size; have hw3 : w.heap.size + 1 < w3.heap.size := RX3.out.lt; have hba := (Below.refl w4.heap.size w4).alloc (Nat.le_refl _) (Obj.cells #[.int .i64 farm, .slice p1 L.length c1, .int .i64 next] 42); have BX5 := Lib.hid (BX4.out.below hba BX4.out.lt); have RX5 := Lib.hid (RX4.out.below hba RX4.out.lt); have OX5 := Lib.hid (BoxA.new w4 farm p1 L.length c1 next 42); have O5 := Lib.hid (hO1.below hba); clear b0 b1 b2 blt r0 r1 r2 rg0 rg1 rg2 rlt; obtain ⟨b0, b1, b2, -, -, -, blt⟩ := BX4.out; obtain ⟨r0, r1, r2, rg0, rg1, rg2, rlt⟩ := RX4.out; unfold accV) | (at_builtin; (refine OwnR.append el_dbt rfl (.tmp 60) (.tmp 68) rfl w3.heap.size (.slice p1 L.length c1) L ⟨next, of, due, amount, amount⟩ #[.int .i64 next, .int .i64 of, .int .i64 due, .int .i64 amount, .int .i64 amount] rfl O5.out rfl (by simp [Act.eval]) (by simp <;> omega) (by omega) (by decide) ?_); intro v5 w6 hO6 hap6; obtain ⟨p5, c5, rfl⟩ := hO6.sl; clear b0 b1 b2 blt r0 r1 r2 rg0 rg1 rg2 rlt; obtain ⟨s0, s1, s2, -, -, -, slt⟩ := BX5.out.far hap6 (hO1.notBlock (by omega)); obtain ⟨t0, t1, t2, tg0, tg1, tg2, tlt⟩ := OX5.out.far hap6 (fun e => by have := (hO1.lt e).2; omega); obtain ⟨u0, u1, u2, ug0, ug1, ug2, ult⟩ := RX5.out.far hap6 (hO1.notBlock (by omega))))
  have h5 := hO6.notBlock (b := w.heap.size + 1) (by have := RX3.out.lt; omega)
  have h6 : (Value.slice p5 (L ++ [(⟨next, of, due, amount, amount⟩ : De.Dbt)]).length c5).ownBlock ≠ some w4.heap.size := fun e => by
    rcases hap6.block with e2 | e2
    · rw [e2] at e
      have := (hO1.lt e).2
      omega
    · rw [e2] at e
      simp only [World.size_alloc, Option.some.injEq] at *
      omega
  have OF := Lib.hid (((((hO6.setOther h6 (.slice p5 (L.length + 1) c5) (i := 1)).setOther h6 (.int .i64 (next + 1)) (i := 2)).drew).setTo (w.heap.size + 1) (by omega) (.int .i64 farm) (.slice p5 (L.length + 1) c5) (.int .i64 (next + 1))).mono (B' := w.heap.size) (by omega))
  have BF0 : Below w.heap.size w w6 := (balloc (Nat.le_refl _) BB4.out _).trans (hap6.below.mono (by omega))
  have BF := Lib.hid (bsetTo (bstep (Nat.le_refl _) ((BF0.setCell (p := ⟨w4.heap.size, 1, none⟩) (by show w.heap.size ≤ w4.heap.size; omega) (.slice p5 (L.length + 1) c5)).setCell (p := ⟨w4.heap.size, 2, none⟩) (by show w.heap.size ≤ w4.heap.size; omega) (.int .i64 (next + 1))) (drewN_below _ 1)) (w.heap.size + 1) (by omega) (.int .i64 farm) (.slice p5 (L.length + 1) c5) (.int .i64 (next + 1)))
  clear h5 h6 BF0 hO6 hap6 hO1 hb2 hb3 hb4 hba
  have hne1 : w4.heap.size ≠ w.heap.size + 1 := by omega
  have hne2 : w.heap.size + 1 ≠ w4.heap.size := by omega
  have hne3 : w4.heap.size ≠ w.heap.size := by omega
  have hne4 : w.heap.size ≠ w4.heap.size := by omega
  have k0 : ((w6.setCell { block := w4.heap.size, off := 1 } (Value.slice p5 (L.length + 1) c5)).setCell { block := w4.heap.size, off := 2 } (Value.int IntKind.i64 (next + 1))).cell? ⟨w4.heap.size, 0, none⟩ = some (.int .i64 farm) := by go_simp
  have k1 : ((w6.setCell { block := w4.heap.size, off := 1 } (Value.slice p5 (L.length + 1) c5)).setCell { block := w4.heap.size, off := 2 } (Value.int IntKind.i64 (next + 1))).cell? ⟨w4.heap.size, 1, none⟩ = some (.slice p5 (L.length + 1) c5) := by go_simp
  have k2 : ((w6.setCell { block := w4.heap.size, off := 1 } (Value.slice p5 (L.length + 1) c5)).setCell { block := w4.heap.size, off := 2 } (Value.int IntKind.i64 (next + 1))).cell? ⟨w4.heap.size, 2, none⟩ = some (.int .i64 (next + 1)) := by go_simp
  have k3 : ((w6.setCell { block := w4.heap.size, off := 1 } (Value.slice p5 (L.length + 1) c5)).setCell { block := w4.heap.size, off := 2 } (Value.int IntKind.i64 (next + 1))).cell? ⟨w.heap.size, 2, none⟩ = some (.int .i64 next) := by go_simp
  have y0 : ((w6.setCell { block := w4.heap.size, off := 1 } (Value.slice p5 (L.length + 1) c5)).setCell { block := w4.heap.size, off := 2 } (Value.int IntKind.i64 (next + 1))).cell? ⟨w.heap.size + 1, 0, none⟩ = some (.int .i64 0) := by go_simp
  have y1 : ((w6.setCell { block := w4.heap.size, off := 1 } (Value.slice p5 (L.length + 1) c5)).setCell { block := w4.heap.size, off := 2 } (Value.int IntKind.i64 (next + 1))).cell? ⟨w.heap.size + 1, 1, none⟩ = some (.slice none 0 0) := by go_simp
  have y2 : ((w6.setCell { block := w4.heap.size, off := 1 } (Value.slice p5 (L.length + 1) c5)).setCell { block := w4.heap.size, off := 2 } (Value.int IntKind.i64 (next + 1))).cell? ⟨w.heap.size + 1, 2, none⟩ = some (.int .i64 0) := by go_simp
  have z0 : ((w6.setCell { block := w4.heap.size, off := 1 } (Value.slice p5 (L.length + 1) c5)).setCell { block := w4.heap.size, off := 2 } (Value.int IntKind.i64 (next + 1))).frozen? ⟨w.heap.size + 1, 0, none⟩ = false := by go_simp
  have z1 : ((w6.setCell { block := w4.heap.size, off := 1 } (Value.slice p5 (L.length + 1) c5)).setCell { block := w4.heap.size, off := 2 } (Value.int IntKind.i64 (next + 1))).frozen? ⟨w.heap.size + 1, 1, none⟩ = false := by go_simp
  have z2 : ((w6.setCell { block := w4.heap.size, off := 1 } (Value.slice p5 (L.length + 1) c5)).setCell { block := w4.heap.size, off := 2 } (Value.int IntKind.i64 (next + 1))).frozen? ⟨w.heap.size + 1, 2, none⟩ = false := by go_simp
  obtain ⟨W, hW⟩ : ∃ W : World, ((w6.setCell { block := w4.heap.size, off := 1 } (Value.slice p5 (L.length + 1) c5)).setCell { block := w4.heap.size, off := 2 } (Value.int IntKind.i64 (next + 1))) = W := ⟨_, rfl⟩
  rw [hW] at OF BF k0 k1 k2 k3 y0 y1 y2 z0 z1 z2 ⊢
  clear hW s0 s1 s2 t0 t1 t2 tg0 tg1 tg2 u0 u1 u2 ug0 ug1 ug2 slt tlt ult
  go_region_held3 (fun w' => w'.cell? ⟨w4.heap.size, 0, none⟩ = some (.int .i64 farm) ∧ w'.cell? ⟨w4.heap.size, 1, none⟩ = some (.slice p5 (L.length + 1) c5) ∧ w'.cell? ⟨w4.heap.size, 2, none⟩ = some (.int .i64 (next + 1)) ∧ w'.cell? ⟨w.heap.size, 2, none⟩ = some (.int .i64 next)) (first | exact ⟨k0, k1, k2, k3⟩ | go_keep | exact ⟨by go_simp, by go_simp, by go_simp, by go_simp⟩) (fail)
  go_wp2
  have hlen : L.length + 1 = (L ++ [(⟨next, of, due, amount, amount⟩ : De.Dbt)]).length := by simp
  obtain ⟨pz, cz, ez, hz⟩ := OF.out.lies (p0 := none) BF.out
  cases ez
  exact bodyPost_ret (v := .tuple #[.agg #[.int .i64 farm, .slice p5 (L.length + 1) c5, .int .i64 (next + 1)], .int .i64 next, .int .i64 0]) (by simp [results, Try.results38, go_sem, y0, y1, y2]) rfl ⟨_, _, by unfold accV; rw [← hlen], hz⟩

/-- What an account's own row may lie in: nothing that is newer than the call, or in new blocks. -/
def Apt (w : World) (p0 p : Option Addr) (L L' : List De.Dbt) : Prop := L' = [] ∨ (L ≠ [] ∧ p = p0) ∨ ∀ x, p = some x → w.heap.size ≤ x.block

def CGive' (w : World) (farm : Int) (p0 : Option Addr) (L0 L : List De.Dbt) (next num er : Int) (e : Ending) (w' : World) : Prop :=
  ∃ p c, e = .returned (.tuple #[accV farm p L.length c next, .int .i64 num, .int .i64 er]) ∧ Lies w w' p0 p c L ∧ Apt w p0 p L0 L

theorem cgive_bad {w : World} {farm : Int} {p0 : Option Addr} {L : List De.Dbt} {next num er : Int} {e : Ending} {w' : World} (h : CGive w farm p0 L next num er e w') : CGive' w farm p0 L L next num er e w' := by
  obtain ⟨p, c, h1, h2⟩ := h
  refine ⟨p, c, h1, h2, ?_⟩
  by_cases e : L = []
  · exact .inl e
  · rcases h2.new with h | h
    · exact .inr (.inl ⟨e, h⟩)
    · exact .inr (.inr h)

theorem cgive_new {w : World} {farm : Int} {p0 : Option Addr} {L0 L : List De.Dbt} {next num er : Int} {e : Ending} {w' : World} (h : CGive w farm none L next num er e w') : CGive' w farm p0 L0 L next num er e w' := by
  obtain ⟨p, c, h1, h2⟩ := h
  have hn : ∀ x, p = some x → w.heap.size ≤ x.block := by
    rcases h2.new with h | h
    · intro x e; rw [h] at e; cases e
    · exact h
  exact ⟨p, c, h1, ⟨h2.recs, h2.nil, .inr hn, h2.below⟩, .inr (.inr hn)⟩

theorem charge39_apt (farm next : Int) (p : Option Addr) (L : List De.Dbt) (cap : Nat) (of due amount : Int) (w : World) (h : Debts w p L) (hc : p = none → cap = 0) (hl : L.length ≤ 1000000) :
    Calls Try.prog 31 #[accV farm p L.length cap next, .int .i64 of, .int .i64 due, .int .i64 amount] w (CGive' w farm p L (De.cList farm L next of due amount) (De.cNext farm L next of due amount) (De.cNum farm L next of due amount) (De.cErr farm L next of due amount)) := by
  by_cases he : De.cErr farm L next of due amount = 0
  · rcases c_cases farm L next of due amount with ⟨c, e⟩ | ⟨hR, c, ⟨d1, e⟩ | ⟨d1, ⟨d2, e⟩ | ⟨d2, ⟨d3, e⟩ | ⟨d3, d4, e⟩ | ⟨d3, d4, d5, e⟩ | ⟨d3, d4, d5, ⟨d6, e⟩ | ⟨d6, ⟨d7, e⟩ | ⟨d7, e⟩⟩⟩⟩⟩⟩
    all_goals first | (exfalso; omega) | exact (charge39_new farm next p L cap of due amount w h hc hl hR d1 d2 d3 d4 d5 d6 d7 e).mono fun _ _ hh => cgive_new hh
  · refine (charge39_bad farm next p L cap of due amount w h hc hl he).mono fun _ _ hh => ?_
    have e : De.cList farm L next of due amount = L := by unfold De.cList; rw [if_pos he]
    rw [e] at hh ⊢
    exact cgive_bad hh

theorem refcharge39_apt (farm next : Int) (p : Option Addr) (L : List De.Dbt) (cap : Nat) (of due amount : Int) (w : World) (h : Debts w p L) (hc : p = none → cap = 0) (hl : L.length ≤ 1000000) :
    Calls Try.prog 38 #[accV farm p L.length cap next, .int .i64 of, .int .i64 due, .int .i64 amount] w (CGive' w farm p L (De.cList farm L next of due amount) (De.cNext farm L next of due amount) (De.cNum farm L next of due amount) (De.cErr farm L next of due amount)) := by
  by_cases he : De.cErr farm L next of due amount = 0
  · rcases c_cases farm L next of due amount with ⟨c, e⟩ | ⟨hR, c, ⟨d1, e⟩ | ⟨d1, ⟨d2, e⟩ | ⟨d2, ⟨d3, e⟩ | ⟨d3, d4, e⟩ | ⟨d3, d4, d5, e⟩ | ⟨d3, d4, d5, ⟨d6, e⟩ | ⟨d6, ⟨d7, e⟩ | ⟨d7, e⟩⟩⟩⟩⟩⟩
    all_goals first | (exfalso; omega) | exact (refcharge39_new farm next p L cap of due amount w h hc hl hR d1 d2 d3 d4 d5 d6 d7 e).mono fun _ _ hh => cgive_new hh
  · refine (refcharge39_bad farm next p L cap of due amount w h hc hl he).mono fun _ _ hh => ?_
    have e : De.cList farm L next of due amount = L := by unfold De.cList; rw [if_pos he]
    rw [e] at hh ⊢
    exact cgive_bad hh

end Go.Proofs.Ytdnddikchchdkaa

namespace Go.Proofs.Ytdnddikchchdkaa
open Go.RowKit

theorem kb3' {w : World} {b n c : Nat} {farm next : Int} {p : Option Addr} (h : BoxA w b farm p n c next) : w.cell? ⟨b, 0, none⟩ = some (.int .i64 farm) ∧ w.cell? ⟨b, 1, none⟩ = some (.slice p n c) ∧ w.cell? ⟨b, 2, none⟩ = some (.int .i64 next) := ⟨h.a0, h.a1, h.a2⟩

/-- A pair in a variable. -/
structure PrAt (w : World) (b : Nat) (d am : Int) : Prop where
  c0 : w.cell? ⟨b, 0, none⟩ = some (.int .i64 d)
  c1 : w.cell? ⟨b, 1, none⟩ = some (.int .i64 am)
  lt : b < w.heap.size

theorem PrAt.below {w w' : World} {b B : Nat} {d am : Int} (h : PrAt w b d am) (hb : Below B w w') (hB : b < B) : PrAt w' b d am :=
  ⟨(hb.cell (p := ⟨b, 0, none⟩) hB).trans h.c0, (hb.cell (p := ⟨b, 1, none⟩) hB).trans h.c1, Nat.lt_of_lt_of_le h.lt hb.size⟩

/-- What stands while a pair is tried: the account, the pair; W is behind wr. -/
structure PSt (wr W : World) (bx b21 : Nat) (farm next : Int) (p : Option Addr) (c : Nat) (L : List De.Dbt) (d am : Int) : Prop where
  acc : AccAt W bx farm next p c L
  pr : PrAt W b21 d am
  below : Below wr.heap.size wr W
  ge : wr.heap.size ≤ b21
  lt : bx < wr.heap.size
  ap : L = [] ∨ ∀ a, p = some a → a.block < wr.heap.size

theorem PSt.step {wr W W' : World} {bx b21 : Nat} {farm next : Int} {p : Option Addr} {c : Nat} {L : List De.Dbt} {d am : Int} (h : PSt wr W bx b21 farm next p c L d am) (hb : Below W.heap.size W W') : PSt wr W' bx b21 farm next p c L d am :=
  ⟨h.acc.below hb, h.pr.below hb h.pr.lt, h.below.trans (hb.mono h.below.size), h.ge, h.lt, h.ap⟩

/-- Another variable is written. -/
theorem PSt.put {wr W : World} {bx b21 b : Nat} {farm next : Int} {p : Option Addr} {c : Nat} {L : List De.Dbt} {d am : Int} (h : PSt wr W bx b21 farm next p c L d am) (hb : wr.heap.size ≤ b) (hn : b ≠ b21) (x y z : Value) : PSt wr (((W.setCell ⟨b, 0, none⟩ x).setCell ⟨b, 1, none⟩ y).setCell ⟨b, 2, none⟩ z) bx b21 farm next p c L d am := by
  have hl := h.lt
  refine ⟨h.acc.other (by omega) ?_ x y z, ⟨?_, ?_, by simpa [World.setCell] using h.pr.lt⟩, bsetTo h.below b hb x y z, h.ge, h.lt, h.ap⟩
  · rcases h.ap with e | h
    · exact .inl e
    · exact .inr fun a e => by have := h a e; omega
  · have := h.pr.c0; exact cell_other (cell_other (cell_other this (fun e => hn e)) (fun e => hn e)) (fun e => hn e)
  · have := h.pr.c1; exact cell_other (cell_other (cell_other this (fun e => hn e)) (fun e => hn e)) (fun e => hn e)

theorem kp5 {wr W : World} {bx b21 : Nat} {farm next : Int} {p : Option Addr} {c : Nat} {L : List De.Dbt} {d am : Int} (h : PSt wr W bx b21 farm next p c L d am) : W.cell? ⟨bx, 0, none⟩ = some (.int .i64 farm) ∧ W.cell? ⟨bx, 1, none⟩ = some (.slice p L.length c) ∧ W.cell? ⟨bx, 2, none⟩ = some (.int .i64 next) ∧ W.cell? ⟨b21, 0, none⟩ = some (.int .i64 d) ∧ W.cell? ⟨b21, 1, none⟩ = some (.int .i64 am) :=
  ⟨h.acc.box.a0, h.acc.box.a1, h.acc.box.a2, h.pr.c0, h.pr.c1⟩

theorem Apt.apart {w : World} {p0 p : Option Addr} {L L' : List De.Dbt} (h : Apt w p0 p L L') {b B : Nat} (hb : b < w.heap.size) (h0 : L = [] ∨ ∀ a, p0 = some a → a.block < B) (hB : B ≤ b) : L' = [] ∨ ∀ x, p = some x → x.block ≠ b := by
  rcases h with h | ⟨hL, rfl⟩ | h
  · exact .inl h
  · rcases h0 with h0 | h0
    · exact absurd h0 hL
    · exact .inr fun x e => by have := h0 x e; omega
  · exact .inr fun x e => by have := h x e; omega

theorem offs_same {farm next day amount r1 r2 : Int} {L L1 L2 : List De.Dbt} (h1 : if oErr farm L next day amount = 0 then De.Off day L amount L1 r1 else L1 = L ∧ r1 = 0) (h2 : if oErr farm L next day amount = 0 then De.Off day L amount L2 r2 else L2 = L ∧ r2 = 0) : L1 = L2 ∧ r1 = r2 := by
  by_cases he : oErr farm L next day amount = 0
  · rw [if_pos he] at h1 h2
    have hR : De.Right farm L next := by
      rcases o_cases farm L next day amount with ⟨c, e⟩ | ⟨hR, -⟩
      · omega
      · exact hR
    exact h1.uniq hR.fine h2
  · rw [if_neg he] at h1 h2
    exact ⟨h1.1.trans h2.1.symm, h1.2.trans h2.2.symm⟩

theorem offs_nil {farm next day amount r : Int} {L' : List De.Dbt} (h : if oErr farm [] next day amount = 0 then De.Off day [] amount L' r else L' = [] ∧ r = 0) : L' = [] := by
  split at h
  · cases h with
    | done => rfl
    | step hd _ _ => cases hd.1
  · exact h.1

theorem wList_nil (farm next n amount : Int) : De.wList farm [] next n amount = [] := by
  unfold De.wList
  split <;> rfl

theorem Lies.off {w w' : World} {p0 p : Option Addr} {c : Nat} {L L' : List De.Dbt} (h : Lies w w' p0 p c L') {b B : Nat} (hb : b < w.heap.size) (h0 : L = [] ∨ ∀ a, p0 = some a → a.block < B) (hB : B ≤ b) (hL : L = [] → L' = []) : L' = [] ∨ ∀ x, p = some x → x.block ≠ b :=
  h.apart hb (by
    rcases h0 with e | h0
    · exact .inl (hL e)
    · exact .inr fun x e => by have := h0 x e; omega)

theorem BoxA.put3 {w : World} {bx n c b : Nat} {farm next : Int} {p : Option Addr} (h : BoxA w bx farm p n c next) (hb : b ≠ bx) (x y z : Value) : BoxA (((w.setCell ⟨b, 0, none⟩ x).setCell ⟨b, 1, none⟩ y).setCell ⟨b, 2, none⟩ z) bx farm p n c next :=
  ((h.other hb x).other hb y).other hb z

/-- What stands while both numbers are tried. -/
structure TSt (wr W : World) (bx b21 b22 b25 bl : Nat) (farm next : Int) (p : Option Addr) (c : Nat) (L : List De.Dbt) (d am n0 n1 : Int) : Prop where
  st : PSt wr W bx b21 farm next p c L d am
  v22 : ∃ f q n k x, BoxA W b22 f q n k x
  v25 : ∃ f q n k x, BoxA W b25 f q n k x
  l0 : W.cell? ⟨bl, 0, none⟩ = some (.int .i64 n0)
  l1 : W.cell? ⟨bl, 1, none⟩ = some (.int .i64 n1)
  lt : bl < W.heap.size

theorem TSt.at {wr W : World} {bx b21 b22 b25 bl : Nat} {farm next : Int} {p : Option Addr} {c : Nat} {L : List De.Dbt} {d am n0 n1 : Int} (h : TSt wr W bx b21 b22 b25 bl farm next p c L d am n0 n1) {j : Nat} (hj : j < 2) : ∃ n, W.cell? ⟨bl, j, none⟩ = some (.int .i64 n) ∧ (n = n0 ∨ n = n1) := by
  match j, hj with
  | 0, _ => exact ⟨_, h.l0, .inl rfl⟩
  | 1, _ => exact ⟨_, h.l1, .inr rfl⟩

theorem TSt.step {wr W W' : World} {bx b21 b22 b25 bl : Nat} {farm next : Int} {p : Option Addr} {c : Nat} {L : List De.Dbt} {d am n0 n1 : Int} (h : TSt wr W bx b21 b22 b25 bl farm next p c L d am n0 n1) (hb : Below W.heap.size W W') : TSt wr W' bx b21 b22 b25 bl farm next p c L d am n0 n1 := by
  obtain ⟨f, q, n, k, x, h2⟩ := h.v22
  obtain ⟨f', q', n', k', x', h5⟩ := h.v25
  exact ⟨h.st.step hb, ⟨f, q, n, k, x, h2.below hb h2.lt⟩, ⟨f', q', n', k', x', h5.below hb h5.lt⟩, (hb.cell (p := ⟨bl, 0, none⟩) h.lt).trans h.l0, (hb.cell (p := ⟨bl, 1, none⟩) h.lt).trans h.l1, Nat.lt_of_lt_of_le h.lt hb.size⟩

theorem cell_put3 {w : World} {b b' i : Nat} {v : Value} (h : w.cell? ⟨b', i, none⟩ = some v) (hn : b ≠ b') (x y z : Value) : (((w.setCell ⟨b, 0, none⟩ x).setCell ⟨b, 1, none⟩ y).setCell ⟨b, 2, none⟩ z).cell? ⟨b', i, none⟩ = some v :=
  cell_other (cell_other (cell_other h (fun e => hn e)) (fun e => hn e)) (fun e => hn e)

theorem BoxA.to3 {w : World} {b n0 c0 : Nat} {f0 x0 : Int} {p0 : Option Addr} (h : BoxA w b f0 p0 n0 c0 x0) (f : Int) (q : Option Addr) (n k : Nat) (x : Int) : BoxA (((w.setCell ⟨b, 0, none⟩ (.int .i64 f)).setCell ⟨b, 1, none⟩ (.slice q n k)).setCell ⟨b, 2, none⟩ (.int .i64 x)) b f q n k x := by
  obtain ⟨a0, a1, a2, g0, g1, g2, lt⟩ := h
  exact ⟨by go_simp, by go_simp, by go_simp, by go_simp, by go_simp, by go_simp, by simpa [World.setCell] using lt⟩

theorem TSt.put22 {wr W : World} {bx b21 b22 b25 bl : Nat} {farm next : Int} {p : Option Addr} {c : Nat} {L : List De.Dbt} {d am n0 n1 : Int} (h : TSt wr W bx b21 b22 b25 bl farm next p c L d am n0 n1) (hge : wr.heap.size ≤ b22) (hn : b22 ≠ b21) (hl : bl ≠ b22) (h5 : b25 ≠ b22) (f : Int) (q : Option Addr) (n k : Nat) (x : Int) :
    TSt wr (((W.setCell ⟨b22, 0, none⟩ (.int .i64 f)).setCell ⟨b22, 1, none⟩ (.slice q n k)).setCell ⟨b22, 2, none⟩ (.int .i64 x)) bx b21 b22 b25 bl farm next p c L d am n0 n1 := by
  obtain ⟨f2, q2, n2, k2, x2, h2⟩ := h.v22
  obtain ⟨f', q', n', k', x', h5'⟩ := h.v25
  exact ⟨h.st.put hge hn _ _ _, ⟨_, _, _, _, _, h2.to3 f q n k x⟩, ⟨_, _, _, _, _, h5'.put3 (fun e => h5 e.symm) _ _ _⟩, cell_put3 h.l0 (fun e => hl e.symm) _ _ _, cell_put3 h.l1 (fun e => hl e.symm) _ _ _, by simpa [World.setCell] using h.lt⟩

theorem TSt.put25 {wr W : World} {bx b21 b22 b25 bl : Nat} {farm next : Int} {p : Option Addr} {c : Nat} {L : List De.Dbt} {d am n0 n1 : Int} (h : TSt wr W bx b21 b22 b25 bl farm next p c L d am n0 n1) (hge : wr.heap.size ≤ b25) (hn : b25 ≠ b21) (hl : bl ≠ b25) (h5 : b25 ≠ b22) (f : Int) (q : Option Addr) (n k : Nat) (x : Int) :
    TSt wr (((W.setCell ⟨b25, 0, none⟩ (.int .i64 f)).setCell ⟨b25, 1, none⟩ (.slice q n k)).setCell ⟨b25, 2, none⟩ (.int .i64 x)) bx b21 b22 b25 bl farm next p c L d am n0 n1 := by
  obtain ⟨f2, q2, n2, k2, x2, h2⟩ := h.v22
  obtain ⟨f', q', n', k', x', h5'⟩ := h.v25
  exact ⟨h.st.put hge hn _ _ _, ⟨_, _, _, _, _, h2.put3 h5 _ _ _⟩, ⟨_, _, _, _, _, h5'.to3 f q n k x⟩, cell_put3 h.l0 (fun e => hl e.symm) _ _ _, cell_put3 h.l1 (fun e => hl e.symm) _ _ _, by simpa [World.setCell] using h.lt⟩


set_option maxRecDepth 1000000 in
set_option maxHeartbeats 32000000 in
theorem pair_round (u0 u1 u8 u9 u10 u11 u12 u13 u14 u15 u16 u17 u18 u20 u21 u22 u23 u24 u25 u26 u27 u28 u29 u30 u31 u32 u33 u34 u35 u36 u37 u38 u39 u40 u41 u42 u43 u44 u45 u46 u47 u48 u49 u50 u51 u52 u53 u54 u55 u56 u57 u58 u59 u60 u61 u62 u63 u64 u65 u66 u67 u68 u69 u70 u71 u72 u73 u74 u75 u76 u77 u78 u79 u80 u81 u82 u83 u87 u88 u89 u90 u91 u92 u93 u94 u95 u96 u97 u98 u99 u100 u101 u102 u103 u104 u105 u106 u107 u108 u109 u110 u111 u112 u113 u114 u115 u116 u117 u118 u119 u120 u121 u122 u123 u124 u125 u126 u127 u128 u129 u130 u131 u132 u133 u134 u135 u136 u137 u138 u139 u140 u141 u142 u143 u144 u145 u146 u147 u148 u149 u150 u151 u152 u153 u154 u155 u156 u157 u158 u159 u160 u161 u162 u163 u164 u165 u166 u167 u168 u169 u170 u171 u172 u173 u174 u175 u176 u177 u178 u179 u180 u181 u182 u183 u184 u185 u186 u187 u188 u189 u190 u191 u192 u193 u194 u195 u196 u197 u198 u199 u200 u201 u202 u203 u204 u205 u206 u207 u208 u209 u210 u211 u212 u213 u214 u215 u216 u217 u218 u219 u220 u221 u222 u223 u224 u225 u226 u227 u228 u229 u230 u231 u232 u233 u234 u235 u236 u237 u238 u239 u240 u241 u242 u243 u244 u245 u246 u247 u248 u249 u250 u251 u252 u253 u254 u255 u256 u257 u258 u259 u260 u261 u262 u263 u264 u265 u266 u267 u268 u269 u270 u271 u272 : Value) (k bx bp : Nat) (farm next : Int) (p : Option Addr) (c : Nat) (L : List De.Dbt) (decision day amount mille number by_ d am : Int) (wz : World) (K : Act → World → Prop) (Q0 : Exit → Act → World → Prop)
    (hk : k < 3) (hA : AccAt wz bx farm next p c L) (h50 : L.length ≤ 50) (hp0 : wz.cell? ⟨bp, k * 2, none⟩ = some (.int .i64 d)) (hp1 : wz.cell? ⟨bp, k * 2 + 1, none⟩ = some (.int .i64 am)) (_hbp : bp < wz.heap.size)
    (wa : -9223372036854775808 ≤ decision ∧ decision ≤ 9223372036854775807) (we : -9223372036854775808 ≤ mille ∧ mille ≤ 9223372036854775807) (wn : -9223372036854775808 ≤ number ∧ number ≤ 9223372036854775807) (wm : -9223372036854775808 ≤ am ∧ am ≤ 9223372036854775807)
    (hK : ∀ (v16 v21 v22 v23 v24 v25 v26 v27 v29 v31 v87 v88 v89 v90 v91 v92 v93 v94 v95 v96 v97 v98 v99 v100 v101 v102 v103 v104 v105 v106 v107 v108 v109 v110 v111 v112 v113 v114 v115 v116 v117 v118 v119 v120 v121 v122 v123 v124 v125 v126 v127 v128 v129 v130 v131 v132 v133 v134 v135 v136 v137 v138 v139 v140 v141 v142 v143 v144 v145 v146 v147 v148 v149 v150 v151 v152 v153 v154 v155 v156 v157 v158 v159 v160 v161 v162 v163 v164 v165 v166 v167 v168 v169 v170 v171 v172 v173 v174 v175 v176 v177 v178 v179 v180 v181 v182 v183 v184 v185 v186 v187 v188 v189 v190 v191 v192 v193 v194 v195 v196 v197 v198 v199 v200 v201 v202 v203 v204 v205 v206 v207 v208 v209 v210 v211 v212 v213 v214 v215 v216 v217 v218 v219 v220 v221 v222 v223 v224 v225 v226 v227 v228 v229 v230 v231 v232 v233 : Value) (w' : World), Below wz.heap.size wz w' → K ⟨#[u0, u1, .int .i64 decision, .int .i64 day, .int .i64 amount, .int .i64 mille, .int .i64 number, .int .i64 by_, u8, u9, u10, u11, u12, u13, u14, u15, v16, u17, u18, .pointer (some ⟨bx, 0, none⟩), u20, v21, v22, v23, v24, v25, v26, v27, u28, v29, u30, v31, u32, u33, u34, u35, u36, u37, u38, u39, u40, u41, u42, u43, u44, u45, u46, u47, u48, u49, u50, u51, u52, u53, u54, u55, u56, u57, u58, u59, u60, u61, u62, u63, u64, u65, u66, u67, u68, u69, u70, u71, u72, u73, u74, u75, u76, u77, u78, u79, u80, u81, u82, u83, .slice (some ⟨bp, 0, none⟩) 3 3, .int .i64 3, .int .i64 ((k : Int) + 1), v87, v88, v89, v90, v91, v92, v93, v94, v95, v96, v97, v98, v99, v100, v101, v102, v103, v104, v105, v106, v107, v108, v109, v110, v111, v112, v113, v114, v115, v116, v117, v118, v119, v120, v121, v122, v123, v124, v125, v126, v127, v128, v129, v130, v131, v132, v133, v134, v135, v136, v137, v138, v139, v140, v141, v142, v143, v144, v145, v146, v147, v148, v149, v150, v151, v152, v153, v154, v155, v156, v157, v158, v159, v160, v161, v162, v163, v164, v165, v166, v167, v168, v169, v170, v171, v172, v173, v174, v175, v176, v177, v178, v179, v180, v181, v182, v183, v184, v185, v186, v187, v188, v189, v190, v191, v192, v193, v194, v195, v196, v197, v198, v199, v200, v201, v202, v203, v204, v205, v206, v207, v208, v209, v210, v211, v212, v213, v214, v215, v216, v217, v218, v219, v220, v221, v222, v223, v224, v225, v226, v227, v228, v229, v230, v231, v232, v233, u234, u235, u236, u237, u238, u239, u240, u241, u242, u243, u244, u245, u246, u247, u248, u249, u250, u251, u252, u253, u254, u255, u256, u257, u258, u259, u260, u261, u262, u263, u264, u265, u266, u267, u268, u269, u270, u271, u272], []⟩ w') :
    Code.wp Try.prog pairBody (Exit.then K Q0) ⟨#[u0, u1, .int .i64 decision, .int .i64 day, .int .i64 amount, .int .i64 mille, .int .i64 number, .int .i64 by_, u8, u9, u10, u11, u12, u13, u14, u15, u16, u17, u18, .pointer (some ⟨bx, 0, none⟩), u20, u21, u22, u23, u24, u25, u26, u27, u28, u29, u30, u31, u32, u33, u34, u35, u36, u37, u38, u39, u40, u41, u42, u43, u44, u45, u46, u47, u48, u49, u50, u51, u52, u53, u54, u55, u56, u57, u58, u59, u60, u61, u62, u63, u64, u65, u66, u67, u68, u69, u70, u71, u72, u73, u74, u75, u76, u77, u78, u79, u80, u81, u82, u83, .slice (some ⟨bp, 0, none⟩) 3 3, .int .i64 3, .int .i64 (k : Int), u87, u88, u89, u90, u91, u92, u93, u94, u95, u96, u97, u98, u99, u100, u101, u102, u103, u104, u105, u106, u107, u108, u109, u110, u111, u112, u113, u114, u115, u116, u117, u118, u119, u120, u121, u122, u123, u124, u125, u126, u127, u128, u129, u130, u131, u132, u133, u134, u135, u136, u137, u138, u139, u140, u141, u142, u143, u144, u145, u146, u147, u148, u149, u150, u151, u152, u153, u154, u155, u156, u157, u158, u159, u160, u161, u162, u163, u164, u165, u166, u167, u168, u169, u170, u171, u172, u173, u174, u175, u176, u177, u178, u179, u180, u181, u182, u183, u184, u185, u186, u187, u188, u189, u190, u191, u192, u193, u194, u195, u196, u197, u198, u199, u200, u201, u202, u203, u204, u205, u206, u207, u208, u209, u210, u211, u212, u213, u214, u215, u216, u217, u218, u219, u220, u221, u222, u223, u224, u225, u226, u227, u228, u229, u230, u231, u232, u233, u234, u235, u236, u237, u238, u239, u240, u241, u242, u243, u244, u245, u246, u247, u248, u249, u250, u251, u252, u253, u254, u255, u256, u257, u258, u259, u260, u261, u262, u263, u264, u265, u266, u267, u268, u269, u270, u271, u272], []⟩ wz := by
  conv => arg 2; whnf
  have hk0 : (0 : Int) ≤ (k : Int) := Int.natCast_nonneg _
  have hk1 : (k : Int) < 3 := by omega
  have hP : PSt wz (wz.alloc (Obj.cells #[.int .i64 d, .int .i64 am] 57)) bx wz.heap.size farm next p c L d am := by
    have hb : Below wz.heap.size wz (wz.alloc (Obj.cells #[.int .i64 d, .int .i64 am] 57)) := (Below.refl _ _).alloc (Nat.le_refl _) _
    exact ⟨hA.below hb, ⟨by go_simp, by go_simp, by simp⟩, hb, Nat.le_refl _, hA.box.lt, hA.recs.apart⟩
  have HP := Lib.hid hP
  obtain ⟨m, em⟩ : ∃ x, mod decision 99 = x := ⟨_, rfl⟩
  obtain ⟨m0, m1⟩ := mod_bd decision (n := 99) (by omega)
  rw [em] at m0 m1
  have MM := Lib.hid (fun W => by have k := mod_any decision 99 W wa.1 (by omega); rw [em] at k; exact k)
  have hw : IntKind.i64.wrap (1 + m) = 1 + m := IntWalk.i64_in _ ⟨by omega, by omega⟩
  have hnil := Lib.hid hA.nil
  obtain ⟨cl, ecl⟩ : ∃ x, De.cList farm L next (1 + m) d am = x := ⟨_, rfl⟩
  obtain ⟨cn, ecn⟩ : ∃ x, De.cNext farm L next (1 + m) d am = x := ⟨_, rfl⟩
  obtain ⟨cu, ecu⟩ : ∃ x, De.cNum farm L next (1 + m) d am = x := ⟨_, rfl⟩
  obtain ⟨ce, ece⟩ : ∃ x, De.cErr farm L next (1 + m) d am = x := ⟨_, rfl⟩
  have CH := Lib.hid (fun (W : World) (h : Debts W p L) => by have k := charge39_apt farm next p L c (1 + m) d am W h hnil.out (by omega); rw [ecl, ecn, ecu, ece] at k; unfold accV at k; exact k)
  have CR := Lib.hid (fun (W : World) (h : Debts W p L) => by have k := refcharge39_apt farm next p L c (1 + m) d am W h hnil.out (by omega); rw [ecl, ecn, ecu, ece] at k; unfold accV at k; exact k)
  obtain ⟨a0, a1, a2, -, -, -, -⟩ := hA.box
  clear hP em hA ecl ecn ecu ece
  have HK := Lib.hid hK
  clear hK
  go_upto_region 12 with fail
  obtain ⟨W1, eW⟩ : ∃ W : World, W = wz.alloc (Obj.cells #[.int .i64 d, .int .i64 am] 57) := ⟨_, rfl⟩
  rw [← eW] at HP ⊢
  clear eW a0 a1 a2 hp0 hp1
  obtain ⟨b21, eb⟩ : ∃ b : Nat, b = wz.heap.size := ⟨_, rfl⟩
  have HP1 := Lib.hid (eb ▸ HP.out : PSt wz W1 bx b21 farm next p c L d am)
  rw [← eb]
  clear HP
  have HB := Lib.hid eb
  clear eb
  have HPd := Lib.hid (HP1.out.step (Below.refl _ _).drew)
  have HPa := Lib.hid ((HP1.out.step ((Below.refl _ _).alloc (Nat.le_refl _) (Obj.cells #[.int .i64 0, .slice none 0 0, .int .i64 0] 42))).step (Below.refl _ _).drew)
  have Z1 := Lib.hid ((BoxA.new W1 0 none 0 0 0 42).below ((Below.refl _ _).drew) (BoxA.new W1 0 none 0 0 0 42).lt)
  have hg1 := HP1.out.below.size
  have hn1 : W1.heap.size ≠ b21 := by have := HP1.out.pr.lt; omega
  have AP := Lib.hid HP1.out.ap
  have KD := Lib.hid (kp5 HPd.out)
  have KA := Lib.hid (kp5 HPa.out)
  trace_state
  go_cut [22, 23, 24, 86] from 86 to 233 (fun s22 s23 s24 s86 wx => ∃ (b22 : Nat) (p1 : Option Addr) (c1 : Nat), s22 = .pointer (some ⟨b22, 0, none⟩) ∧ s23 = .int .i64 cu ∧ s24 = .int .i64 ce ∧ s86 = .int .i64 (k : Int) ∧ PSt wz wx bx b21 farm next p c L d am ∧ AccAt wx b22 farm cn p1 c1 cl ∧ wz.heap.size ≤ b22 ∧ b22 ≠ b21)
  case first =>
    go_region_held3 (fun w' => w'.cell? ⟨bx, 0, none⟩ = some (.int .i64 farm) ∧ w'.cell? ⟨bx, 1, none⟩ = some (.slice p L.length c) ∧ w'.cell? ⟨bx, 2, none⟩ = some (.int .i64 next) ∧ w'.cell? ⟨b21, 0, none⟩ = some (.int .i64 d) ∧ w'.cell? ⟨b21, 1, none⟩ = some (.int .i64 am)) (first | with_reducible exact KD.out | with_reducible exact KA.out | with_reducible exact K5.out | with_reducible exact KP.out _ | with_reducible exact KP.out) (first | (go_at_call 13; (with_reducible refine Calls.mono (MM.out _) ?_); rintro e wm ⟨rfl, rfl⟩) | (go_at_call 31; (with_reducible refine Calls.mono (CH.out _ HPd.out.acc.recs) ?_); rintro e w5 ⟨p1, c1, rfl, hl, hapt⟩; unfold accV; have P5 := Lib.hid (HPd.out.step hl.below); have K5 := Lib.hid (kp5 P5.out); have KP := Lib.hid (fun (o : Obj) => kp5 (P5.out.step ((Below.refl _ _).alloc (Nat.le_refl _) o)))) | (go_at_call 31; (with_reducible refine Calls.mono (CH.out _ HPa.out.acc.recs) ?_); rintro e w5 ⟨p1, c1, rfl, hl, hapt⟩; unfold accV; have P5 := Lib.hid (HPa.out.step hl.below); have Z5 := Lib.hid (Z1.out.below hl.below Z1.out.lt); obtain ⟨k0, k1, k2, k3, k4, k5, k6⟩ := Z5.out; have K5 := Lib.hid (kp5 P5.out); have KP := Lib.hid (kp5 (P5.out.put hg1 hn1 (.int .i64 farm) (.slice p1 cl.length c1) (.int .i64 cn)))))
    all_goals
      go_wp2_with fail
      go_meet
      first
        | exact ⟨w5.heap.size, p1, c1, rfl, rfl, rfl, rfl, P5.out.step ((Below.refl _ _).alloc (Nat.le_refl _) _), AccAt.new hl.recs hl.nil _, P5.out.below.size, by have := P5.out.pr.lt; omega⟩
        | exact ⟨W1.heap.size, p1, c1, rfl, rfl, rfl, rfl, P5.out.put hg1 hn1 _ _ _, AccAt.to Z5.out hl.recs hl.nil (hapt.apart (by simp) AP.out hg1), hg1, hn1⟩
  case rest =>
    obtain ⟨b22, p1, c1, rfl, rfl, rfl, rfl, hP2, hC2, hge2, hne2⟩ := hcut
    obtain ⟨W2, rfl⟩ : ∃ W : World, W = wc := ⟨_, rfl⟩
    clear HP1 HPd HPa Z1 KD KA hg1 hn1 CH
    have HP2 := Lib.hid hP2
    have HC2 := Lib.hid hC2
    have QPd := Lib.hid (hP2.step (Below.refl _ _).drew)
    have QPa := Lib.hid ((hP2.step ((Below.refl _ _).alloc (Nat.le_refl _) (Obj.cells #[.int .i64 0, .slice none 0 0, .int .i64 0] 42))).step (Below.refl _ _).drew)
    have QCd := Lib.hid (hC2.below (Below.refl _ _).drew)
    have QCa := Lib.hid ((hC2.below ((Below.refl _ _).alloc (Nat.le_refl _) (Obj.cells #[.int .i64 0, .slice none 0 0, .int .i64 0] 42))).below (Below.refl _ _).drew)
    have Y1 := Lib.hid ((BoxA.new W2 0 none 0 0 0 42).below ((Below.refl _ _).drew) (BoxA.new W2 0 none 0 0 0 42).lt)
    have hg2 := hP2.below.size
    have hn2 : W2.heap.size ≠ b21 := by have := hP2.pr.lt; omega
    have hm2 : W2.heap.size ≠ b22 := by have := hC2.box.lt; omega
    have AQ := Lib.hid (hC2.recs.aparts (Nat.le_refl _))
    have KD := Lib.hid (kp5 QPd.out)
    have KA := Lib.hid (kp5 QPa.out)
    clear hP2 hC2
    go_upto_region 13 with fail
    go_cut [25, 26, 27, 86] from 86 to 233 (fun s25 s26 s27 s86 wx => ∃ (b25 : Nat) (p2 : Option Addr) (c2 : Nat), s25 = .pointer (some ⟨b25, 0, none⟩) ∧ s26 = .int .i64 cu ∧ s27 = .int .i64 ce ∧ s86 = .int .i64 (k : Int) ∧ PSt wz wx bx b21 farm next p c L d am ∧ AccAt wx b22 farm cn p1 c1 cl ∧ AccAt wx b25 farm cn p2 c2 cl ∧ wz.heap.size ≤ b25 ∧ b25 ≠ b21 ∧ b25 ≠ b22)
    case first =>
      go_region_held3 (fun w' => w'.cell? ⟨bx, 0, none⟩ = some (.int .i64 farm) ∧ w'.cell? ⟨bx, 1, none⟩ = some (.slice p L.length c) ∧ w'.cell? ⟨bx, 2, none⟩ = some (.int .i64 next) ∧ w'.cell? ⟨b21, 0, none⟩ = some (.int .i64 d) ∧ w'.cell? ⟨b21, 1, none⟩ = some (.int .i64 am)) (first | with_reducible exact KD.out | with_reducible exact KA.out | with_reducible exact K5.out | with_reducible exact KP.out _ | with_reducible exact KP.out) (first | (go_at_call 13; (with_reducible refine Calls.mono (MM.out _) ?_); rintro e wm ⟨rfl, rfl⟩) | (go_at_call 38; (with_reducible refine Calls.mono (CR.out _ QPd.out.acc.recs) ?_); rintro e w5 ⟨p2, c2, rfl, hl, hapt⟩; unfold accV; have P5 := Lib.hid (QPd.out.step hl.below); have C5 := Lib.hid (QCd.out.below hl.below); have K5 := Lib.hid (kp5 P5.out); have KP := Lib.hid (fun (o : Obj) => kp5 (P5.out.step ((Below.refl _ _).alloc (Nat.le_refl _) o)))) | (go_at_call 38; (with_reducible refine Calls.mono (CR.out _ QPa.out.acc.recs) ?_); rintro e w5 ⟨p2, c2, rfl, hl, hapt⟩; unfold accV; have P5 := Lib.hid (QPa.out.step hl.below); have C5 := Lib.hid (QCa.out.below hl.below); have Z5 := Lib.hid (Y1.out.below hl.below Y1.out.lt); obtain ⟨k0, k1, k2, k3, k4, k5, k6⟩ := Z5.out; have K5 := Lib.hid (kp5 P5.out); have KP := Lib.hid (kp5 (P5.out.put hg2 hn2 (.int .i64 farm) (.slice p2 cl.length c2) (.int .i64 cn)))))
      all_goals
        go_wp2_with fail
        go_meet
        first
          | exact ⟨w5.heap.size, p2, c2, rfl, rfl, rfl, rfl, P5.out.step ((Below.refl _ _).alloc (Nat.le_refl _) _), C5.out.below ((Below.refl _ _).alloc (Nat.le_refl _) _), AccAt.new hl.recs hl.nil _, P5.out.below.size, by have := P5.out.pr.lt; omega, by have := C5.out.box.lt; omega⟩
          | exact ⟨W2.heap.size, p2, c2, rfl, rfl, rfl, rfl, P5.out.put hg2 hn2 _ _ _, C5.out.other hm2 AQ.out _ _ _, AccAt.to Z5.out hl.recs hl.nil (hapt.apart (by simp) AP.out hg2), hg2, hn2, hm2⟩
    case rest =>
      obtain ⟨b25, p2, c2, rfl, rfl, rfl, rfl, hP3, hC3, hD3, hge3, hne3, hne4⟩ := hcut
      obtain ⟨W3, rfl⟩ : ∃ W : World, W = wc := ⟨_, rfl⟩
      clear HP2 HC2 QPd QPa QCd QCa Y1 hg2 hn2 hm2 AQ KD KA CR MM
      have HP3 := Lib.hid hP3
      have HC3 := Lib.hid hC3
      have HD3 := Lib.hid hD3
      have hcu : (cu != cu) = false := by simp
      have hce : (ce != ce) = false := by simp
      have SM := Lib.hid (fun (W : World) (h : Debts W p1 cl) (h' : Debts W p2 cl) => by have k := same39_any farm cn p1 p2 cl c1 c2 W h h'; unfold accV at k; exact k)
      obtain ⟨a0, a1, a2, -, -, -, -⟩ := hC3.box
      obtain ⟨d0, d1, d2, -, -, -, -⟩ := hD3.box
      clear hP3 hC3 hD3
      go_upto_region 14 with fail
      clear hw m0 m1
      go_upto_region 16 with (first | (go_at_call 33; (with_reducible refine Calls.mono (SM.out _ HC3.out.recs HD3.out.recs) ?_); rintro e w6 ⟨rfl, hb6⟩))
      have HP4 := Lib.hid (HP3.out.step hb6)
      have HC4 := Lib.hid (HC3.out.below hb6)
      have HD4 := Lib.hid (HD3.out.below hb6)
      clear a0 a1 a2 d0 d1 d2 HP3 HC3 HD3 hb6 SM hcu hce
      obtain ⟨oe, eoe⟩ : ∃ x, oErr farm L next d am = x := ⟨_, rfl⟩
      have OF := Lib.hid (fun (W : World) (h : Debts W p L) => by have k := offset39_any farm next p L c d am W h hnil.out (by omega); unfold OGives at k; rw [eoe] at k; unfold accV at k; exact k)
      have OR := Lib.hid (fun (W : World) (h : Debts W p L) => by have k := refoffset39_any farm next p L c d am W h hnil.out (by omega); unfold OGives at k; rw [eoe] at k; unfold accV at k; exact k)
      have OE := Lib.hid eoe
      clear eoe
      obtain ⟨a0, a1, a2, -, -, -, -⟩ := HP4.out.acc.box
      obtain ⟨x0, x1, x2⟩ := HP4.out.pr
      go_upto_region 17 with (first | (go_at_call 28; (with_reducible refine Calls.mono (OF.out _ HP4.out.acc.recs) ?_); clear OF; rintro e w7 ⟨p3, c3, L3, r3, rfl, ho3, hl3⟩; have HO3 := Lib.hid ho3; have HL3 := Lib.hid hl3; obtain ⟨y0, y1, y2, y3, y4, y5, y6⟩ := (HC4.out.below hl3.below).box; clear ho3 hl3))
      have hL3 : L = [] → L3 = [] := fun e => by have kk := HO3.out; rw [← OE.out, e] at kk; exact offs_nil kk
      have P5 := Lib.hid ((HP4.out.step HL3.out.below).put hge2 hne2 (.int .i64 farm) (.slice p3 L3.length c3) (.int .i64 next))
      have A5 := Lib.hid (AccAt.to (farm := farm) (next := next) (HC4.out.below HL3.out.below).box HL3.out.recs HL3.out.nil (HL3.out.off HC4.out.box.lt AP.out hge2 hL3))
      have D5 := Lib.hid ((HD4.out.below HL3.out.below).box.put3 (fun e => hne4 e.symm) (.int .i64 farm) (.slice p3 L3.length c3) (.int .i64 next))
      have hap5 := Lib.hid (HL3.out.off HD4.out.box.lt AP.out hge3 hL3)
      have HL := Lib.hid hL3
      obtain ⟨W4, eW⟩ : ∃ W : World, W = (((w7.setCell ⟨b22, 0, none⟩ (.int .i64 farm)).setCell ⟨b22, 1, none⟩ (.slice p3 L3.length c3)).setCell ⟨b22, 2, none⟩ (.int .i64 next)) := ⟨_, rfl⟩
      rw [← eW] at P5 A5 D5 ⊢
      clear eW y0 y1 y2 y3 y4 y5 y6 x0 x1 x2 a0 a1 a2 HP4 HC4 HD4 HL3 hL3
      obtain ⟨a0, a1, a2, -, -, -, -⟩ := P5.out.acc.box
      obtain ⟨x0, x1, x2⟩ := P5.out.pr
      go_upto_region 18 with (first | (go_at_call 39; (with_reducible refine Calls.mono (OR.out _ P5.out.acc.recs) ?_); clear OR; rintro e w8 ⟨p4, c4, L4, r4, rfl, ho4, hl4⟩; have HO4 := Lib.hid ho4; have HL4 := Lib.hid hl4; obtain ⟨y0, y1, y2, y3, y4, y5, y6⟩ := D5.out.below hl4.below D5.out.lt; clear ho4 hl4))
      obtain ⟨e1, e2⟩ : L3 = L4 ∧ r3 = r4 := by have k3 := HO3.out; have k4 := HO4.out; rw [← OE.out] at k3 k4; exact offs_same k3 k4
      subst e1
      subst e2
      have P6 := Lib.hid ((P5.out.step HL4.out.below).put hge3 hne3 (.int .i64 farm) (.slice p4 L3.length c4) (.int .i64 next))
      have A6 := Lib.hid ((A5.out.below HL4.out.below).other hne4 hap5.out (.int .i64 farm) (.slice p4 L3.length c4) (.int .i64 next))
      have D6 := Lib.hid (AccAt.to (farm := farm) (next := next) (D5.out.below HL4.out.below D5.out.lt) HL4.out.recs HL4.out.nil (HL4.out.off D5.out.lt AP.out hge3 HL.out))
      obtain ⟨W5, eW⟩ : ∃ W : World, W = (((w8.setCell ⟨b25, 0, none⟩ (.int .i64 farm)).setCell ⟨b25, 1, none⟩ (.slice p4 L3.length c4)).setCell ⟨b25, 2, none⟩ (.int .i64 next)) := ⟨_, rfl⟩
      rw [← eW] at P6 A6 D6 ⊢
      clear eW y0 y1 y2 y3 y4 y5 y6 x0 x1 x2 a0 a1 a2 P5 A5 D5 hap5 HL4 HO3 HO4 OE HL
      have hcr : (r3 != r3) = false := by simp
      have hco : (oe != oe) = false := by simp
      have SM := Lib.hid (fun (W : World) (h : Debts W p3 L3) (h' : Debts W p4 L3) => by have k := same39_any farm next p3 p4 L3 c3 c4 W h h'; unfold accV at k; exact k)
      obtain ⟨a0, a1, a2, -, -, -, -⟩ := A6.out.box
      obtain ⟨d0, d1, d2, -, -, -, -⟩ := D6.out.box
      go_upto_region 20 with (first | (go_at_call 33; (with_reducible refine Calls.mono (SM.out _ A6.out.recs D6.out.recs) ?_); rintro e w9 ⟨rfl, hb9⟩))
      have P7 := Lib.hid (P6.out.step hb9)
      have A7 := Lib.hid (A6.out.below hb9).box
      have D7 := Lib.hid (D6.out.below hb9).box
      clear a0 a1 a2 d0 d1 d2 P6 A6 D6 hb9 SM hcr hco
      obtain ⟨m8, em8⟩ : ∃ x, mod number 8 = x := ⟨_, rfl⟩
      have M8 := Lib.hid (fun W => by have k := mod_any number 8 W wn.1 (by omega); rw [em8] at k; exact k)
      clear em8
      have T0 : TSt wz (w9.alloc (Obj.cells #[.int .i64 number, .int .i64 m8] 3)) bx b21 b22 b25 w9.heap.size farm next p c L d am number m8 :=
        have hb : Below w9.heap.size w9 (w9.alloc (Obj.cells #[.int .i64 number, .int .i64 m8] 3)) := (Below.refl _ _).alloc (Nat.le_refl _) _
        ⟨P7.out.step hb, ⟨_, _, _, _, _, A7.out.below hb A7.out.lt⟩, ⟨_, _, _, _, _, D7.out.below hb D7.out.lt⟩, by go_simp, by go_simp, by simp⟩
      have hl22 : w9.heap.size ≠ b22 := by have := A7.out.lt; omega
      have hl25 : w9.heap.size ≠ b25 := by have := D7.out.lt; omega
      have TT0 := Lib.hid T0
      clear T0
      go_wp2_with (first | (go_at_call 13; (with_reducible refine Calls.mono (M8.out _) ?_); rintro e wm ⟨rfl, rfl⟩))
      obtain ⟨WL, eL⟩ : ∃ W : World, W = w9.alloc (Obj.cells #[.int .i64 number, .int .i64 m8] 3) := ⟨_, rfl⟩
      rw [← eL] at TT0 ⊢
      clear eL P7 A7 D7 M8
      obtain ⟨bl, ebl⟩ : ∃ b : Nat, b = w9.heap.size := ⟨_, rfl⟩
      rw [← ebl] at TT0 hl22 hl25 ⊢
      clear ebl
      go_loopw [169] (fun i wl => ∃ j : Nat, j ≤ 2 ∧ i = .int .i64 j ∧ TSt wz wl bx b21 b22 b25 bl farm next p c L d am number m8) (fun i _ => 2 - (intOf i).toNat)
      case atStart => exact ⟨0, by omega, rfl, TT0.out⟩
      case round =>
        obtain ⟨wo, rfl⟩ : ∃ wo : World, wo = wr := ⟨_, rfl⟩
        obtain ⟨j, hj, rfl, hT⟩ := hrel
        have T := Lib.hid hT
        have hj0 : (0 : Int) ≤ (j : Int) := Int.natCast_nonneg _
        by_cases hlt : j < 2
        · have hj1 : (j : Int) < 2 := by omega
          obtain ⟨nn, hnn, -⟩ := hT.at hlt
          obtain ⟨wl, ewl⟩ : ∃ x, De.wList farm L next nn am = x := ⟨_, rfl⟩
          obtain ⟨we', ewe⟩ : ∃ x, De.wErr farm L next nn am = x := ⟨_, rfl⟩
          have WV := Lib.hid (fun (W : World) (h : Debts W p L) => by have k := waive39_any farm next p L c nn am W h hnil.out (by omega) wm; rw [ewl, ewe] at k; unfold accV at k; exact k)
          have WR := Lib.hid (fun (W : World) (h : Debts W p L) => by have k := refwaive39_any farm next p L c nn am W h hnil.out (by omega) wm; rw [ewl, ewe] at k; unfold accV at k; exact k)
          have hwl := Lib.hid (show L = [] → wl = [] from fun e => by rw [← ewl, e]; exact wList_nil _ _ _ _)
          obtain ⟨a0, a1, a2, -, -, -, -⟩ := hT.st.acc.box
          obtain ⟨x0, x1, x2⟩ := hT.st.pr
          obtain ⟨f2, q2, n2, k2, z2, hv2⟩ := hT.v22
          obtain ⟨f5, q5, n5, k5, z5, hv5⟩ := hT.v25
          have lt22 := hv2.lt
          have lt25 := hv5.lt
          have HV2 := Lib.hid hv2
          clear hT ewl ewe hv2 hv5
          go_upto_region 24 with (first | (go_at_call 40; (with_reducible refine Calls.mono (WV.out _ T.out.st.acc.recs) ?_); clear WV; rintro e w10 ⟨p5, c5, rfl, hl5⟩; unfold accV; have HL5 := Lib.hid hl5; obtain ⟨y0, y1, y2, y3, y4, y5, y6⟩ := HV2.out.below hl5.below HV2.out.lt; clear hl5))
          have T5 := Lib.hid ((T.out.step HL5.out.below).put22 hge2 hne2 hl22 hne4 farm p5 wl.length c5 next)
          have A5 := Lib.hid (AccAt.to (farm := farm) (next := next) (HV2.out.below HL5.out.below HV2.out.lt) HL5.out.recs HL5.out.nil (HL5.out.off lt22 AP.out hge2 hwl.out))
          have hap5 := Lib.hid (HL5.out.off lt25 AP.out hge3 hwl.out)
          obtain ⟨W6, eW⟩ : ∃ W : World, W = (((w10.setCell ⟨b22, 0, none⟩ (.int .i64 farm)).setCell ⟨b22, 1, none⟩ (.slice p5 wl.length c5)).setCell ⟨b22, 2, none⟩ (.int .i64 next)) := ⟨_, rfl⟩
          rw [← eW] at T5 A5 ⊢
          clear eW y0 y1 y2 y3 y4 y5 y6 x0 x1 x2 a0 a1 a2 hnn HV2 lt22 lt25 HL5
          obtain ⟨a0, a1, a2, -, -, -, -⟩ := T5.out.st.acc.box
          obtain ⟨x0, x1, x2⟩ := T5.out.st.pr
          obtain ⟨f5', q5', n5', k5', z5', hv5⟩ := T5.out.v25
          have HV5 := Lib.hid hv5
          clear hv5
          go_upto_region 25 with (first | (go_at_call 41; (with_reducible refine Calls.mono (WR.out _ T5.out.st.acc.recs) ?_); clear WR; rintro e w11 ⟨p6, c6, rfl, hl6⟩; unfold accV; have HL6 := Lib.hid hl6; obtain ⟨y0, y1, y2, y3, y4, y5, y6⟩ := HV5.out.below hl6.below HV5.out.lt; clear hl6))
          have T6 := Lib.hid ((T5.out.step HL6.out.below).put25 hge3 hne3 hl25 hne4 farm p6 wl.length c6 next)
          have A6 := Lib.hid ((A5.out.below HL6.out.below).other hne4 hap5.out (.int .i64 farm) (.slice p6 wl.length c6) (.int .i64 next))
          have D6 := Lib.hid (AccAt.to (farm := farm) (next := next) (HV5.out.below HL6.out.below HV5.out.lt) HL6.out.recs HL6.out.nil (HL6.out.off HV5.out.lt AP.out hge3 hwl.out))
          obtain ⟨W7, eW⟩ : ∃ W : World, W = (((w11.setCell ⟨b25, 0, none⟩ (.int .i64 farm)).setCell ⟨b25, 1, none⟩ (.slice p6 wl.length c6)).setCell ⟨b25, 2, none⟩ (.int .i64 next)) := ⟨_, rfl⟩
          rw [← eW] at T6 A6 D6 ⊢
          clear eW y0 y1 y2 y3 y4 y5 y6 x0 x1 x2 a0 a1 a2 HV5 T5 A5 HL6 hap5 hwl
          have hwe : (we' != we') = false := by simp
          have SM := Lib.hid (fun (W : World) (h : Debts W p5 wl) (h' : Debts W p6 wl) => by have k := same39_any farm next p5 p6 wl c5 c6 W h h'; unfold accV at k; exact k)
          obtain ⟨a0, a1, a2, -, -, -, -⟩ := A6.out.box
          obtain ⟨d0, d1, d2, -, -, -, -⟩ := D6.out.box
          go_wp2_with (first | (go_at_call 33; (with_reducible refine Calls.mono (SM.out _ A6.out.recs D6.out.recs) ?_); rintro e w12 ⟨rfl, hb12⟩))
          go_roundw
          case rel => exact ⟨j + 1, by omega, by go_num, T6.out.step hb12⟩
          case measure => simp [intOf]; omega
        · obtain rfl : j = 2 := by omega
          obtain ⟨m9, em9⟩ : ∃ x, mod mille 1002 = x := ⟨_, rfl⟩
          have M9 := Lib.hid (fun W => by have k := mod_any mille 1002 W we.1 (by omega); rw [em9] at k; exact k)
          have T0 : TSt wz (wo.alloc (Obj.cells #[.int .i64 mille, .int .i64 m9] 3)) bx b21 b22 b25 wo.heap.size farm next p c L d am mille m9 := by
            have hb : Below wo.heap.size wo (wo.alloc (Obj.cells #[.int .i64 mille, .int .i64 m9] 3)) := (Below.refl _ _).alloc (Nat.le_refl _) _
            have h := T.out.step hb
            exact ⟨h.st, h.v22, h.v25, by go_simp, by go_simp, by simp⟩
          have T9 := Lib.hid T0
          clear T0 T hT em9 TT0
          go_wp2_with (first | (go_at_call 13; (with_reducible refine Calls.mono (M9.out _) ?_); rintro e wm ⟨rfl, rfl⟩))
          obtain ⟨WM, eM⟩ : ∃ W : World, W = wo.alloc (Obj.cells #[.int .i64 mille, .int .i64 m9] 3) := ⟨_, rfl⟩
          rw [← eM] at T9 ⊢
          clear eM M9
          obtain ⟨bm, ebm⟩ : ∃ b : Nat, b = wo.heap.size := ⟨_, rfl⟩
          rw [← ebm] at T9 ⊢
          clear ebm
          go_loopw [204] (fun i wl => ∃ j : Nat, j ≤ 2 ∧ i = .int .i64 j ∧ TSt wz wl bx b21 b22 b25 bm farm next p c L d am mille m9) (fun i _ => 2 - (intOf i).toNat)
          case atStart => exact ⟨0, by omega, rfl, T9.out⟩
          case round =>
            obtain ⟨wq, rfl⟩ : ∃ wq : World, wq = wr := ⟨_, rfl⟩
            obtain ⟨j, hj, rfl, hT⟩ := hrel
            have T := Lib.hid hT
            have hj0 : (0 : Int) ≤ (j : Int) := Int.natCast_nonneg _
            by_cases hlt : j < 2
            · have hj1 : (j : Int) < 2 := by omega
              obtain ⟨nn, hnn, -⟩ := hT.at hlt
              obtain ⟨iv, eiv⟩ : ∃ x, iVal farm L next d nn = x := ⟨_, rfl⟩
              obtain ⟨ie, eie⟩ : ∃ x, iErr farm L next d nn = x := ⟨_, rfl⟩
              have IV := Lib.hid (fun (W : World) (h : Debts W p L) => by have k := interest39_any farm next p L c d nn W h; rw [eiv, eie] at k; unfold accV at k; exact k)
              have IR := Lib.hid (fun (W : World) (h : Debts W p L) => by have k := refinterest39_any farm next p L c d nn W h; rw [eiv, eie] at k; unfold accV at k; exact k)
              have hiv : (iv != iv) = false := by simp
              have hie : (ie != ie) = false := by simp
              obtain ⟨a0, a1, a2, -, -, -, -⟩ := hT.st.acc.box
              obtain ⟨x0, x1, x2⟩ := hT.st.pr
              clear hT eiv eie
              go_wp2_with (first | (go_at_call 42; (with_reducible refine Calls.mono (IV.out _ T.out.st.acc.recs) ?_); clear IV; rintro e w10 ⟨rfl, hb10⟩; have T1 := Lib.hid (T.out.step hb10); obtain ⟨e0, e1, e2, -, -, -, -⟩ := T1.out.st.acc.box; obtain ⟨y0, y1, y2⟩ := T1.out.st.pr) | (go_at_call 43; (with_reducible refine Calls.mono (IR.out _ T1.out.st.acc.recs) ?_); clear IR; rintro e w11 ⟨rfl, hb11⟩; have T2 := Lib.hid (T1.out.step hb11)))
              go_roundw
              case rel => exact ⟨j + 1, by omega, by go_num, T2.out⟩
              case measure => simp [intOf]; omega
            · obtain rfl : j = 2 := by omega
              go_wp2
              exact HK.out _ _ _ _ _ _ _ _ _ _ _ _ _ _ _ _ _ _ _ _ _ _ _ _ _ _ _ _ _ _ _ _ _ _ _ _ _ _ _ _ _ _ _ _ _ _ _ _ _ _ _ _ _ _ _ _ _ _ _ _ _ _ _ _ _ _ _ _ _ _ _ _ _ _ _ _ _ _ _ _ _ _ _ _ _ _ _ _ _ _ _ _ _ _ _ _ _ _ _ _ _ _ _ _ _ _ _ _ _ _ _ _ _ _ _ _ _ _ _ _ _ _ _ _ _ _ _ _ _ _ _ _ _ _ _ _ _ _ _ _ _ _ _ _ _ _ _ _ _ _ _ _ _ _ _ _ _ _ T.out.st.below

theorem pairRound : PairRound := pair_round

end Go.Proofs.Ytdnddikchchdkaa
