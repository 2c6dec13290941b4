/-
  THE WALK over ref39.Charge where nothing is wrong.
-/
import Derived.Test.YtdnddikchchdkaaD19
namespace Go.Proofs.Ytdnddikchchdkaa
open Go.RowKit

set_option maxRecDepth 100000 in
set_option maxHeartbeats 8000000 in
theorem refcharge39_ok (farm next : Int) (p : Option Addr) (L : List De.Dbt) (cap : Nat) (of due amount : Int) (w : World) (h : Debts w p L) (hc : p = none → cap = 0) (hl : L.length ≤ 1000000) (hR : De.Right farm L next) (d1 : De.decB of = true) (d2 : De.dayB due = true) (d3 : 1 ≤ amount) (d4 : amount ≤ 68719476736) (d5 : De.total L + amount ≤ 68719476736) (d6 : ((L.length : Int) == 40) = false) (d7 : (next == 1125899906842624) = false) (e : De.cErr farm L next of due amount = 0) :
    Calls Try.prog 38 #[accV farm p L.length cap next, .int .i64 of, .int .i64 due, .int .i64 amount] w (CGive w farm p (De.cList farm L next of due amount) (De.cNext farm L next of due amount) (De.cNum farm L next of due amount) (De.cErr farm L next of due amount)) := by
  have hn := h.len
  have hb1 : Below w.heap.size w ((w.alloc (Obj.cells #[.int .i64 farm, .slice p L.length cap, .int .i64 next] 42)).alloc (Obj.cells #[.int .i64 0, .slice none 0 0, .int .i64 0] 42)) := ((Below.refl w.heap.size w).alloc (Nat.le_refl _) _).alloc (by simp) _
  have B1 := Lib.hid hb1
  have h1 := h.below hb1
  have CK := Lib.hid (fun (W : World) (hW : Debts W p L) => refcheck39_any farm next p L cap W hW)
  have H1 := Lib.hid h1
  have HC := Lib.hid hc
  have H0 := Lib.hid h
  have hbx : BoxA ((w.alloc (Obj.cells #[.int .i64 farm, .slice p L.length cap, .int .i64 next] 42)).alloc (Obj.cells #[.int .i64 0, .slice none 0 0, .int .i64 0] 42)) w.heap.size farm p L.length cap next := (BoxA.new w farm p L.length cap next 42).below ((Below.refl _ _).alloc (Nat.le_refl _) _) (by simp)
  have hrx : BoxA ((w.alloc (Obj.cells #[.int .i64 farm, .slice p L.length cap, .int .i64 next] 42)).alloc (Obj.cells #[.int .i64 0, .slice none 0 0, .int .i64 0] 42)) (w.heap.size + 1) 0 none 0 0 0 := by
    have := BoxA.new (w.alloc (Obj.cells #[.int .i64 farm, .slice p L.length cap, .int .i64 next] 42)) 0 none 0 0 0 42
    rw [World.size_alloc] at this
    exact this
  have BX := Lib.hid hbx
  have RX := Lib.hid hrx
  unfold accV at CK
  unfold accV
  obtain ⟨v1, v2, v3⟩ := c_vals0 e
  rw [e, v1, v2, v3]
  have c := De.chk_ok hR
  rw [c] at CK
  clear v1 v2 v3 e c h h1 hb1 hbx hrx
  have SM := Lib.hid (fun W (hW : Debts W p L) => refsum39_any farm next p L cap W hW (amt_of_right hR) (by have := hR.len; omega))
  have CP := Lib.hid (fun W (hW : Debts W p L) => copied39_any farm next p L cap W hW hc hl)
  unfold accV at SM CP
  have htt := De.total_nonneg (fun d hd => (amt_of_right hR d hd).1)
  have htm := hR.tot
  obtain ⟨nx1, nx2⟩ := hR.nx
  obtain ⟨g1, g2⟩ := De.decB_iff.1 d1
  obtain ⟨g3, g4⟩ := De.dayB_iff.1 d2
  clear hR hc
  go_enter Try.func38, Try.ntmps38
  go_wp2_with (first | (go_at_call 36; refine Calls.mono (CK.out _ H1.out) ?_; rintro e w2 ⟨rfl, hb2⟩; have BX2 := Lib.hid (BX.out.below hb2 BX.out.lt); have RX2 := Lib.hid (RX.out.below hb2 RX.out.lt); have H2 := Lib.hid (H1.out.below hb2); have BB2 := Lib.hid (B1.out.trans (hb2.mono (by simp <;> omega))); obtain ⟨b0, b1, b2, -, -, -, blt⟩ := BX2.out; obtain ⟨r0, r1, r2, rg0, rg1, rg2, rlt⟩ := RX2.out) | (go_at_call 71; refine Calls.mono (SM.out _ H2.out) ?_; rintro e w3 ⟨rfl, hb3⟩; have BX3 := Lib.hid (BX2.out.below hb3 BX2.out.lt); have RX3 := Lib.hid (RX2.out.below hb3 RX2.out.lt); have H3 := Lib.hid (H2.out.below hb3); have BB3 := Lib.hid (bstep (Nat.le_refl _) BB2.out hb3); clear b0 b1 b2 blt r0 r1 r2 rg0 rg1 rg2 rlt; obtain ⟨b0, b1, b2, -, -, -, blt⟩ := BX3.out; obtain ⟨r0, r1, r2, rg0, rg1, rg2, rlt⟩ := RX3.out) | (go_at_call 72; refine Calls.mono (CP.out _ H3.out) ?_; rintro e w4 ⟨p1, c1, rfl, hO1, hb4⟩; have BX4 := Lib.hid (BX3.out.below hb4 BX3.out.lt); have RX4 := Lib.hid (RX3.out.below hb4 RX3.out.lt); have BB4 := Lib.hid (bstep (Nat.le_refl _) BB3.out hb4); have hs4 := hb4.size; have hw3 : w.heap.size + 1 < w3.heap.size := RX3.out.lt; have hba := (Below.refl w4.heap.size w4).alloc (Nat.le_refl _) (Obj.cells #[.int .i64 farm, .slice p1 L.length c1, .int .i64 next] 42); have BX5 := Lib.hid (BX4.out.below hba BX4.out.lt); have RX5 := Lib.hid (RX4.out.below hba RX4.out.lt); have OX5 := Lib.hid (BoxA.new w4 farm p1 L.length c1 next 42); have O5 := Lib.hid (hO1.below hba); clear b0 b1 b2 blt r0 r1 r2 rg0 rg1 rg2 rlt; obtain ⟨b0, b1, b2, -, -, -, blt⟩ := BX4.out; obtain ⟨r0, r1, r2, rg0, rg1, rg2, rlt⟩ := RX4.out; unfold accV) | (at_builtin; (refine OwnR.append el_dbt rfl (.tmp 60) (.tmp 68) rfl w3.heap.size (.slice p1 L.length c1) L ⟨next, of, due, amount, amount⟩ #[.int .i64 next, .int .i64 of, .int .i64 due, .int .i64 amount, .int .i64 amount] rfl O5.out rfl (by simp [Act.eval]) (by simp <;> omega) (by omega) (by decide) ?_); intro v5 w6 hO6 hap6; obtain ⟨p5, c5, rfl⟩ := hO6.sl; clear b0 b1 b2 blt r0 r1 r2 rg0 rg1 rg2 rlt; obtain ⟨s0, s1, s2, -, -, -, slt⟩ := BX5.out.far hap6 (hO1.notBlock (by omega)); obtain ⟨t0, t1, t2, tg0, tg1, tg2, tlt⟩ := OX5.out.far hap6 (fun e => by have := (hO1.lt e).2; omega); obtain ⟨u0, u1, u2, ug0, ug1, ug2, ult⟩ := RX5.out.far hap6 (hO1.notBlock (by omega))))
  have h5 := hO6.notBlock (b := w.heap.size + 1) (by have := RX3.out.lt; omega)
  have h6 : (Value.slice p5 (L ++ [(⟨next, of, due, amount, amount⟩ : De.Dbt)]).length c5).ownBlock ≠ some w4.heap.size := fun e => by
    rcases hap6.block with e2 | e2
    · rw [e2] at e
      have := (hO1.lt e).2
      omega
    · rw [e2] at e
      simp only [World.size_alloc, Option.some.injEq] at *
      omega
  have OF := Lib.hid (((((hO6.setOther h6 (.slice p5 (L.length + 1) c5) (i := 1)).setOther h6 (.int .i64 (next + 1)) (i := 2)).drew).setTo (w.heap.size + 1) (by omega) (.int .i64 farm) (.slice p5 (L.length + 1) c5) (.int .i64 (next + 1))).mono (B' := w.heap.size) (by omega))
  have BF0 : Below w.heap.size w w6 := (balloc (Nat.le_refl _) BB4.out _).trans (hap6.below.mono (by omega))
  have BF := Lib.hid (bsetTo (bstep (Nat.le_refl _) ((BF0.setCell (p := ⟨w4.heap.size, 1, none⟩) (by show w.heap.size ≤ w4.heap.size; omega) (.slice p5 (L.length + 1) c5)).setCell (p := ⟨w4.heap.size, 2, none⟩) (by show w.heap.size ≤ w4.heap.size; omega) (.int .i64 (next + 1))) (drewN_below _ 1)) (w.heap.size + 1) (by omega) (.int .i64 farm) (.slice p5 (L.length + 1) c5) (.int .i64 (next + 1)))
  clear h5 h6 BF0 hO6 hap6 hO1 hb2 hb3 hb4 hba
  have hne1 : w4.heap.size ≠ w.heap.size + 1 := by omega
  have hne2 : w.heap.size + 1 ≠ w4.heap.size := by omega
  have hne3 : w4.heap.size ≠ w.heap.size := by omega
  have hne4 : w.heap.size ≠ w4.heap.size := by omega
  have k0 : ((w6.setCell { block := w4.heap.size, off := 1 } (Value.slice p5 (L.length + 1) c5)).setCell { block := w4.heap.size, off := 2 } (Value.int IntKind.i64 (next + 1))).cell? ⟨w4.heap.size, 0, none⟩ = some (.int .i64 farm) := by go_simp
  have k1 : ((w6.setCell { block := w4.heap.size, off := 1 } (Value.slice p5 (L.length + 1) c5)).setCell { block := w4.heap.size, off := 2 } (Value.int IntKind.i64 (next + 1))).cell? ⟨w4.heap.size, 1, none⟩ = some (.slice p5 (L.length + 1) c5) := by go_simp
  have k2 : ((w6.setCell { block := w4.heap.size, off := 1 } (Value.slice p5 (L.length + 1) c5)).setCell { block := w4.heap.size, off := 2 } (Value.int IntKind.i64 (next + 1))).cell? ⟨w4.heap.size, 2, none⟩ = some (.int .i64 (next + 1)) := by go_simp
  have k3 : ((w6.setCell { block := w4.heap.size, off := 1 } (Value.slice p5 (L.length + 1) c5)).setCell { block := w4.heap.size, off := 2 } (Value.int IntKind.i64 (next + 1))).cell? ⟨w.heap.size, 2, none⟩ = some (.int .i64 next) := by go_simp
  have y0 : ((w6.setCell { block := w4.heap.size, off := 1 } (Value.slice p5 (L.length + 1) c5)).setCell { block := w4.heap.size, off := 2 } (Value.int IntKind.i64 (next + 1))).cell? ⟨w.heap.size + 1, 0, none⟩ = some (.int .i64 0) := by go_simp
  have y1 : ((w6.setCell { block := w4.heap.size, off := 1 } (Value.slice p5 (L.length + 1) c5)).setCell { block := w4.heap.size, off := 2 } (Value.int IntKind.i64 (next + 1))).cell? ⟨w.heap.size + 1, 1, none⟩ = some (.slice none 0 0) := by go_simp
  have y2 : ((w6.setCell { block := w4.heap.size, off := 1 } (Value.slice p5 (L.length + 1) c5)).setCell { block := w4.heap.size, off := 2 } (Value.int IntKind.i64 (next + 1))).cell? ⟨w.heap.size + 1, 2, none⟩ = some (.int .i64 0) := by go_simp
  have z0 : ((w6.setCell { block := w4.heap.size, off := 1 } (Value.slice p5 (L.length + 1) c5)).setCell { block := w4.heap.size, off := 2 } (Value.int IntKind.i64 (next + 1))).frozen? ⟨w.heap.size + 1, 0, none⟩ = false := by go_simp
  have z1 : ((w6.setCell { block := w4.heap.size, off := 1 } (Value.slice p5 (L.length + 1) c5)).setCell { block := w4.heap.size, off := 2 } (Value.int IntKind.i64 (next + 1))).frozen? ⟨w.heap.size + 1, 1, none⟩ = false := by go_simp
  have z2 : ((w6.setCell { block := w4.heap.size, off := 1 } (Value.slice p5 (L.length + 1) c5)).setCell { block := w4.heap.size, off := 2 } (Value.int IntKind.i64 (next + 1))).frozen? ⟨w.heap.size + 1, 2, none⟩ = false := by go_simp
  obtain ⟨W, hW⟩ : ∃ W : World, ((w6.setCell { block := w4.heap.size, off := 1 } (Value.slice p5 (L.length + 1) c5)).setCell { block := w4.heap.size, off := 2 } (Value.int IntKind.i64 (next + 1))) = W := ⟨_, rfl⟩
  rw [hW] at OF BF k0 k1 k2 k3 y0 y1 y2 z0 z1 z2 ⊢
  clear hW s0 s1 s2 t0 t1 t2 tg0 tg1 tg2 u0 u1 u2 ug0 ug1 ug2 slt tlt ult
  go_region_held3 (fun w' => w'.cell? ⟨w4.heap.size, 0, none⟩ = some (.int .i64 farm) ∧ w'.cell? ⟨w4.heap.size, 1, none⟩ = some (.slice p5 (L.length + 1) c5) ∧ w'.cell? ⟨w4.heap.size, 2, none⟩ = some (.int .i64 (next + 1)) ∧ w'.cell? ⟨w.heap.size, 2, none⟩ = some (.int .i64 next)) (first | exact ⟨k0, k1, k2, k3⟩ | go_keep | exact ⟨by go_simp, by go_simp, by go_simp, by go_simp⟩) (fail)
  go_wp2
  have hlen : L.length + 1 = (L ++ [(⟨next, of, due, amount, amount⟩ : De.Dbt)]).length := by simp
  obtain ⟨pz, cz, ez, hz⟩ := OF.out.lies (p0 := p) BF.out
  cases ez
  exact bodyPost_ret (v := .tuple #[.agg #[.int .i64 farm, .slice p5 (L.length + 1) c5, .int .i64 (next + 1)], .int .i64 next, .int .i64 0]) (by simp [results, Try.results38, go_sem, y0, y1, y2]) rfl ⟨_, _, by unfold accV; rw [← hlen], hz⟩

set_option maxHeartbeats 400000 in
theorem refcharge39_any (farm next : Int) (p : Option Addr) (L : List De.Dbt) (cap : Nat) (of due amount : Int) (w : World) (h : Debts w p L) (hc : p = none → cap = 0) (hl : L.length ≤ 1000000) :
    Calls Try.prog 38 #[accV farm p L.length cap next, .int .i64 of, .int .i64 due, .int .i64 amount] w (CGive w farm p (De.cList farm L next of due amount) (De.cNext farm L next of due amount) (De.cNum farm L next of due amount) (De.cErr farm L next of due amount)) := by
  by_cases he : De.cErr farm L next of due amount = 0
  · rcases c_cases farm L next of due amount with ⟨c, e⟩ | ⟨hR, c, ⟨d1, e⟩ | ⟨d1, ⟨d2, e⟩ | ⟨d2, ⟨d3, e⟩ | ⟨d3, d4, e⟩ | ⟨d3, d4, d5, e⟩ | ⟨d3, d4, d5, ⟨d6, e⟩ | ⟨d6, ⟨d7, e⟩ | ⟨d7, e⟩⟩⟩⟩⟩⟩
    all_goals first | (exfalso; omega) | exact refcharge39_ok farm next p L cap of due amount w h hc hl hR d1 d2 d3 d4 d5 d6 d7 e
  · exact refcharge39_bad farm next p L cap of due amount w h hc hl he

end Go.Proofs.Ytdnddikchchdkaa
