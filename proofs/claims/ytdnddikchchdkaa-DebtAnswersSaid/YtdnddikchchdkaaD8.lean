/-
  THE WALK over debt.Charge where nothing is wrong.
-/
import Derived.Test.YtdnddikchchdkaaD7
import Derived.Outline
namespace Go.Proofs.Ytdnddikchchdkaa
open Go.RowKit

set_option maxRecDepth 100000 in
set_option maxHeartbeats 8000000 in
theorem charge39_ok (farm next : Int) (p : Option Addr) (L : List De.Dbt) (cap : Nat) (of due amount : Int) (w : World) (h : Debts w p L) (hc : p = none → cap = 0) (hl : L.length ≤ 1000000) (hR : De.Right farm L next) (d1 : De.decB of = true) (d2 : De.dayB due = true) (d3 : 1 ≤ amount) (d4 : amount ≤ 68719476736) (d5 : De.total L + amount ≤ 68719476736) (d6 : ((L.length : Int) == 40) = false) (d7 : (next == 1125899906842624) = false) (e : De.cErr farm L next of due amount = 0) :
    Calls Try.prog 31 #[accV farm p L.length cap next, .int .i64 of, .int .i64 due, .int .i64 amount] w (CGive w farm p (De.cList farm L next of due amount) (De.cNext farm L next of due amount) (De.cNum farm L next of due amount) (De.cErr farm L next of due amount)) := by
  have hn := h.len
  have hb1 : Below w.heap.size w ((w.alloc (Obj.cells #[.int .i64 farm, .slice p L.length cap, .int .i64 next] 42)).alloc (Obj.cells #[.int .i64 0, .slice none 0 0, .int .i64 0] 42)) := ((Below.refl w.heap.size w).alloc (Nat.le_refl _) _).alloc (by simp <;> omega) _
  have B1 := Lib.hid hb1
  have h1 := h.below hb1
  have CL := Lib.hid (clone39_any farm next p L cap ((w.alloc (Obj.cells #[.int .i64 farm, .slice p L.length cap, .int .i64 next] 42)).alloc (Obj.cells #[.int .i64 0, .slice none 0 0, .int .i64 0] 42)) h1 hc hl)
  have CK := Lib.hid (fun (W : World) (hW : Debts W p L) => check39_any farm next p L cap W hW)
  have H1 := Lib.hid h1
  have hbx : BoxA ((w.alloc (Obj.cells #[.int .i64 farm, .slice p L.length cap, .int .i64 next] 42)).alloc (Obj.cells #[.int .i64 0, .slice none 0 0, .int .i64 0] 42)) w.heap.size farm p L.length cap next := (BoxA.new w farm p L.length cap next 42).below ((Below.refl _ _).alloc (Nat.le_refl _) _) (by simp <;> omega)
  have hrx : BoxA ((w.alloc (Obj.cells #[.int .i64 farm, .slice p L.length cap, .int .i64 next] 42)).alloc (Obj.cells #[.int .i64 0, .slice none 0 0, .int .i64 0] 42)) (w.heap.size + 1) 0 none 0 0 0 := by
    have := BoxA.new (w.alloc (Obj.cells #[.int .i64 farm, .slice p L.length cap, .int .i64 next] 42)) 0 none 0 0 0 42
    rw [World.size_alloc] at this
    exact this
  have BX := Lib.hid hbx
  have RX := Lib.hid hrx
  unfold accV at CL CK ⊢
  obtain ⟨v1, v2, v3⟩ := c_vals0 e
  rw [e, v1, v2, v3]
  have c := De.chk_ok hR
  rw [c] at CK
  clear v1 v2 v3 e c h hc h1 hb1 hbx hrx
  have AM := Lib.hid (fun W (hW : Debts W p L) => amounts_any p L cap W hW (amt_of_right hR) (by have := hR.len; omega))
  have htt := De.total_nonneg (fun d hd => (amt_of_right hR d hd).1)
  have htm := hR.tot
  obtain ⟨nx1, nx2⟩ := hR.nx
  clear hR
  go_enter Try.func31, Try.ntmps31
  go_wp2_with (first | (go_at_call 62; refine Calls.mono CL.out ?_; rintro e w1 ⟨p1, c1, rfl, hO1, hbl1⟩; have BX1 := Lib.hid (BX.out.below hbl1 (by simp <;> omega)); have RX1 := Lib.hid (RX.out.below hbl1 (by simp <;> omega)); have H2 := Lib.hid ((H1.out.below hbl1).below ((Below.refl _ _).alloc (Nat.le_refl _) (Obj.cells #[.int .i64 farm, .slice p1 L.length c1, .int .i64 next] 42))); have hs1 : w.heap.size + 1 < w1.heap.size := (by have := hbl1.size; simp at this; omega); obtain ⟨a0, a1, a2, -, -, -, hlt1⟩ := BX1.out; unfold accV) | (go_at_call 30; refine Calls.mono (CK.out _ H2.out) ?_; rintro e w3 ⟨rfl, hb3⟩; have hba := (Below.refl w1.heap.size w1).alloc (Nat.le_refl _) (Obj.cells #[.int .i64 farm, .slice p1 L.length c1, .int .i64 next] 42); have BX3 := Lib.hid ((BX1.out.below hba BX1.out.lt).below hb3 (by simp <;> omega)); have RX3 := Lib.hid ((RX1.out.below hba RX1.out.lt).below hb3 (by simp <;> omega)); have OX3 := Lib.hid ((BoxA.new w1 farm p1 L.length c1 next 42).below hb3 (by simp <;> omega)); have O3 := Lib.hid ((hO1.below hba).below hb3); have H3 := Lib.hid (H2.out.below hb3); have BB3 := Lib.hid (((B1.out.trans (hbl1.mono (by simp <;> omega))).alloc (by omega) _).trans (hb3.mono (by simp <;> omega))); obtain ⟨b0, b1, b2, -, -, -, blt⟩ := BX3.out; obtain ⟨o0, o1, o2, og0, og1, og2, olt⟩ := OX3.out; obtain ⟨r0, r1, r2, rg0, rg1, rg2, rlt⟩ := RX3.out) | (go_at_call 70; refine (dec39_any _ _).mono ?_; rintro e w' ⟨rfl, rfl⟩) | (go_at_call 63; refine (day39_any _ _).mono ?_; rintro e w' ⟨rfl, rfl⟩) | (go_at_call 69; refine (AM.out _ H3.out).mono ?_; rintro e w4 ⟨rfl, hb4⟩; obtain ⟨m0, m1, m2, -, -, -, mlt⟩ := BX3.out.below hb4 BX3.out.lt; obtain ⟨p0, p1', p2, pg0, pg1, pg2, plt⟩ := OX3.out.below hb4 OX3.out.lt; obtain ⟨q0, q1, q2, qg0, qg1, qg2, qlt⟩ := RX3.out.below hb4 RX3.out.lt) | (at_builtin; (refine OwnR.append el_dbt rfl (.tmp 59) (.tmp 67) rfl ((w.alloc (Obj.cells #[.int .i64 farm, .slice p L.length cap, .int .i64 next] 42)).alloc (Obj.cells #[.int .i64 0, .slice none 0 0, .int .i64 0] 42)).heap.size (.slice p1 L.length c1) L ⟨next, of, due, amount, amount⟩ #[.int .i64 next, .int .i64 of, .int .i64 due, .int .i64 amount, .int .i64 amount] rfl (O3.out.below hb4) rfl rfl (by have := hb4.size; simp <;> omega) (by omega) (by decide) ?_); intro v5 w5 hO5 hap5; obtain ⟨p5, c5, rfl⟩ := hO5.sl; obtain ⟨s0, s1, s2, -, -, -, slt⟩ := (BX3.out.below hb4 BX3.out.lt).far hap5 (hO1.notBlock (by simp <;> omega)); obtain ⟨t0, t1, t2, tg0, tg1, tg2, tlt⟩ := (OX3.out.below hb4 OX3.out.lt).far hap5 (fun e => by have := (hO1.lt e).2; omega); obtain ⟨u0, u1, u2, ug0, ug1, ug2, ult⟩ := (RX3.out.below hb4 RX3.out.lt).far hap5 (hO1.notBlock (by simp <;> omega))))
  have h5 := hO5.notBlock (b := w.heap.size + 1) (by simp <;> omega)
  have h6 : (Value.slice p5 (L ++ [(⟨next, of, due, amount, amount⟩ : De.Dbt)]).length c5).ownBlock ≠ some w1.heap.size := fun e => by
    rcases hap5.block with e2 | e2
    · rw [e2] at e
      have := (hO1.lt e).2
      omega
    · rw [e2] at e
      have := hb4.size
      have := hb3.size
      simp only [World.size_alloc, Option.some.injEq] at *
      omega
  have OF := Lib.hid (((((hO5.setOther h6 (.slice p5 (L.length + 1) c5) (i := 1)).setOther h6 (.int .i64 (next + 1)) (i := 2)).drew).setTo (w.heap.size + 1) (by simp <;> omega) (.int .i64 farm) (.slice p5 (L.length + 1) c5) (.int .i64 (next + 1))).mono (B' := w.heap.size) (by simp <;> omega))
  have BF0 : Below w.heap.size w w5 := (bstep (Nat.le_refl _) BB3.out hb4).trans (hap5.below.mono (by simp <;> omega))
  have BF := Lib.hid (bsetTo (bstep (Nat.le_refl _) ((BF0.setCell (p := ⟨w1.heap.size, 1, none⟩) (by simp <;> omega) (.slice p5 (L.length + 1) c5)).setCell (p := ⟨w1.heap.size, 2, none⟩) (by simp <;> omega) (.int .i64 (next + 1))) (drewN_below _ 1)) (w.heap.size + 1) (by omega) (.int .i64 farm) (.slice p5 (L.length + 1) c5) (.int .i64 (next + 1)))
  clear h5 h6 BF0 hO5 hap5 hO1 hb3 hb4
  have k0 : ((w5.setCell { block := w1.heap.size, off := 1 } (Value.slice p5 (L.length + 1) c5)).setCell { block := w1.heap.size, off := 2 } (Value.int IntKind.i64 (next + 1))).cell? ⟨w1.heap.size, 0, none⟩ = some (.int .i64 farm) := by go_simp
  have k1 : ((w5.setCell { block := w1.heap.size, off := 1 } (Value.slice p5 (L.length + 1) c5)).setCell { block := w1.heap.size, off := 2 } (Value.int IntKind.i64 (next + 1))).cell? ⟨w1.heap.size, 1, none⟩ = some (.slice p5 (L.length + 1) c5) := by go_simp
  have k2 : ((w5.setCell { block := w1.heap.size, off := 1 } (Value.slice p5 (L.length + 1) c5)).setCell { block := w1.heap.size, off := 2 } (Value.int IntKind.i64 (next + 1))).cell? ⟨w1.heap.size, 2, none⟩ = some (.int .i64 (next + 1)) := by go_simp
  have k3 : ((w5.setCell { block := w1.heap.size, off := 1 } (Value.slice p5 (L.length + 1) c5)).setCell { block := w1.heap.size, off := 2 } (Value.int IntKind.i64 (next + 1))).cell? ⟨w.heap.size, 2, none⟩ = some (.int .i64 next) := by go_simp
  have y0 : ((w5.setCell { block := w1.heap.size, off := 1 } (Value.slice p5 (L.length + 1) c5)).setCell { block := w1.heap.size, off := 2 } (Value.int IntKind.i64 (next + 1))).cell? ⟨w.heap.size + 1, 0, none⟩ = some (.int .i64 0) := by go_simp
  have y1 : ((w5.setCell { block := w1.heap.size, off := 1 } (Value.slice p5 (L.length + 1) c5)).setCell { block := w1.heap.size, off := 2 } (Value.int IntKind.i64 (next + 1))).cell? ⟨w.heap.size + 1, 1, none⟩ = some (.slice none 0 0) := by go_simp
  have y2 : ((w5.setCell { block := w1.heap.size, off := 1 } (Value.slice p5 (L.length + 1) c5)).setCell { block := w1.heap.size, off := 2 } (Value.int IntKind.i64 (next + 1))).cell? ⟨w.heap.size + 1, 2, none⟩ = some (.int .i64 0) := by go_simp
  have z0 : ((w5.setCell { block := w1.heap.size, off := 1 } (Value.slice p5 (L.length + 1) c5)).setCell { block := w1.heap.size, off := 2 } (Value.int IntKind.i64 (next + 1))).frozen? ⟨w.heap.size + 1, 0, none⟩ = false := by go_simp
  have z1 : ((w5.setCell { block := w1.heap.size, off := 1 } (Value.slice p5 (L.length + 1) c5)).setCell { block := w1.heap.size, off := 2 } (Value.int IntKind.i64 (next + 1))).frozen? ⟨w.heap.size + 1, 1, none⟩ = false := by go_simp
  have z2 : ((w5.setCell { block := w1.heap.size, off := 1 } (Value.slice p5 (L.length + 1) c5)).setCell { block := w1.heap.size, off := 2 } (Value.int IntKind.i64 (next + 1))).frozen? ⟨w.heap.size + 1, 2, none⟩ = false := by go_simp
  obtain ⟨W, hW⟩ : ∃ W : World, ((w5.setCell { block := w1.heap.size, off := 1 } (Value.slice p5 (L.length + 1) c5)).setCell { block := w1.heap.size, off := 2 } (Value.int IntKind.i64 (next + 1))) = W := ⟨_, rfl⟩
  have hne1 : w1.heap.size ≠ w.heap.size + 1 := by omega
  have hne2 : w.heap.size + 1 ≠ w1.heap.size := by omega
  rw [hW] at OF BF k0 k1 k2 k3 y0 y1 y2 z0 z1 z2 ⊢
  clear hW s0 s1 s2 t0 t1 t2 tg0 tg1 tg2 u0 u1 u2 ug0 ug1 ug2 slt tlt ult
  go_region_held3 (fun w' => w'.cell? ⟨w1.heap.size, 0, none⟩ = some (.int .i64 farm) ∧ w'.cell? ⟨w1.heap.size, 1, none⟩ = some (.slice p5 (L.length + 1) c5) ∧ w'.cell? ⟨w1.heap.size, 2, none⟩ = some (.int .i64 (next + 1)) ∧ w'.cell? ⟨w.heap.size, 2, none⟩ = some (.int .i64 next)) (first | exact ⟨k0, k1, k2, k3⟩ | go_keep | exact ⟨by go_simp, by go_simp, by go_simp, by go_simp⟩) (fail)
  go_wp2
  have hlen : L.length + 1 = (L ++ [(⟨next, of, due, amount, amount⟩ : De.Dbt)]).length := by simp
  obtain ⟨pz, cz, ez, hz⟩ := OF.out.lies (p0 := p) BF.out
  cases ez
  exact bodyPost_ret (v := .tuple #[.agg #[.int .i64 farm, .slice p5 (L.length + 1) c5, .int .i64 (next + 1)], .int .i64 next, .int .i64 0]) (by simp [results, Try.results31, go_sem, y0, y1, y2]) rfl ⟨_, _, by unfold accV; rw [← hlen], hz⟩

set_option maxHeartbeats 400000 in
theorem charge39_any (farm next : Int) (p : Option Addr) (L : List De.Dbt) (cap : Nat) (of due amount : Int) (w : World) (h : Debts w p L) (hc : p = none → cap = 0) (hl : L.length ≤ 1000000) :
    Calls Try.prog 31 #[accV farm p L.length cap next, .int .i64 of, .int .i64 due, .int .i64 amount] w (CGive w farm p (De.cList farm L next of due amount) (De.cNext farm L next of due amount) (De.cNum farm L next of due amount) (De.cErr farm L next of due amount)) := by
  by_cases he : De.cErr farm L next of due amount = 0
  · rcases c_cases farm L next of due amount with ⟨c, e⟩ | ⟨hR, c, ⟨d1, e⟩ | ⟨d1, ⟨d2, e⟩ | ⟨d2, ⟨d3, e⟩ | ⟨d3, d4, e⟩ | ⟨d3, d4, d5, e⟩ | ⟨d3, d4, d5, ⟨d6, e⟩ | ⟨d6, ⟨d7, e⟩ | ⟨d7, e⟩⟩⟩⟩⟩⟩
    all_goals first | (exfalso; omega) | exact charge39_ok farm next p L cap of due amount w h hc hl hR d1 d2 d3 d4 d5 d6 d7 e
  · exact charge39_bad farm next p L cap of due amount w h hc hl he

end Go.Proofs.Ytdnddikchchdkaa
