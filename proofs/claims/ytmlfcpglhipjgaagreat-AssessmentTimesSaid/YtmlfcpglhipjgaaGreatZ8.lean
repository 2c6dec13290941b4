/-
  PACKED (pack8.py): what is needed of the texts T42.
-/
import Derived.Test.YtmlfcpglhipjgaaGreatZ0
import Derived.Test.YtmlfcpglhipjgaaGreatZ1
import Derived.Test.YtmlfcpglhipjgaaGreatZ7
namespace Go.Proofs.YtmlfcpglhipjgaaGreat.Te
end Go.Proofs.YtmlfcpglhipjgaaGreat.Te
namespace Go.Proofs.YtmlfcpglhipjgaaGreat
open Go.RowKit Te
def TapeTerm (t : Nat) (l : List Int) (D : Nat) (w : World) (e : Ending) (w' : World) : Prop :=
 ∃ (row : RT) (tm : Tm) (d q : Nat), e = .returned (.agg #[.int .i64 row.op, .int .i64 row.num, .int .i64 row.more, .slice row.p row.n row.c]) ∧ TV (NewQ w.heap.size) w' d row tm ∧ count tm < 2 ^ (D + 1) ∧ TapeAt w' t l q ∧ But t w w'
theorem term_leaf {t : Nat} {l : List Int} {D q : Nat} {w W : World} (o n m : Int) (hb : But t w W) (ht : TapeAt W t l q) : TapeTerm t l D w (.returned (.agg #[.int .i64 o, .int .i64 n, .int .i64 m, .slice none 0 0])) W :=
 ⟨⟨o, n, m, none, 0, 0⟩, .mk o n m [], 0, q, rfl, ⟨⟨rfl, rfl, rfl, rfl, Nat.le_refl _, fun _ => rfl⟩, TmsAt.nil _ _ _ _⟩, by rw [count, countL]; have := Nat.one_lt_two_pow (n := D + 1) (by omega); omega, ht, hb⟩
theorem term_kids {t : Nat} {l : List Int} {D q : Nat} {w w3 : World} (hb : But t w w3) (ht : TapeAt w3 t l q) (htw : t < w.heap.size) (o : Int) (R : List RT) (K : List Tm) (d n : Nat) (hlen : R.length = K.length) (hn : R.length = n) (hn2 : n ≤ 2)
  (hR : ∀ k (h : k < R.length) (h' : k < K.length), TV (NewQ (w.heap.size + 1)) w3 d R[k] K[k]) (hz : w.heap.size < w3.heap.size) (hc : countL K + 1 < 2 ^ (D + 1)) (T : TypeId) :
  TapeTerm t l D w (.returned (.agg #[.int .i64 o, .int .i64 0, .int .i64 0, .slice (some ⟨w3.heap.size, 0, none⟩) n n]))
   ((put4 w3 w.heap.size (.int .i64 o) (.int .i64 0) (.int .i64 0) (.slice (some ⟨w3.heap.size, 0, none⟩) n n)).alloc (.cells (ST.flat R).toArray T)) := by
 obtain ⟨S, eS⟩ : ∃ S : Value, S = .slice (some ⟨w3.heap.size, 0, none⟩) n n := ⟨_, rfl⟩
 rw [← eS]
 have hblk := put4_block w3 w.heap.size (.int .i64 o) (.int .i64 0) (.int .i64 0) S
 have hbx := put4_but hb (.int .i64 o) (.int .i64 0) (.int .i64 0) S
 have hpb := put4_below (W := w3) (Nat.le_refl w.heap.size) (.int .i64 o) (.int .i64 0) (.int .i64 0) S
 obtain ⟨X, eX⟩ : ∃ X, X = put4 w3 w.heap.size (.int .i64 o) (.int .i64 0) (.int .i64 0) S := ⟨_, rfl⟩
 rw [← eX] at hblk hbx hpb ⊢
 have hA : Below X.heap.size X (X.alloc (.cells (ST.flat R).toArray T)) := (Below.refl _ _).alloc (Nat.le_refl _) _
 have htX := ht.belowB hpb htw
 refine ⟨⟨o, 0, 0, some ⟨w3.heap.size, 0, none⟩, n, n⟩, .mk o 0 0 K, d + 1, q, by rw [eS], ⟨⟨rfl, rfl, rfl, by show n = K.length; omega, Nat.le_refl _, fun e => by cases e⟩, R, hlen, ?_, fun a e => .inr (by cases e; show w.heap.size ≤ w3.heap.size; omega), fun k a b => ?_⟩, by rw [count]; omega, htX.below hA, hbx.stp (hA.mono hbx.size)⟩
 ·have := Recs.lit (S := ST) X T R (by unfold maxLen; omega)
  rw [hblk.1] at this
  exact this
 ·have h1 : TV (NewQ w.heap.size) X d R[k] K[k] := (hR k a b).change (by rw [hblk.1]; exact Nat.le_refl _) fun g hq _ => ⟨hblk.2 g (by unfold NewQ at hq; omega), by unfold NewQ at *; omega⟩
  exact ⟨h1.is, h1.at_.below hA⟩
theorem scBelow (w : World) (g i : Nat) (u : Value) {B : Nat} (h : B ≤ g) : Below B w (w.setCell ⟨g, i, none⟩ u) := (Below.refl _ _).setCell h _
theorem TB.new (w : World) (x0 x1 x2 x3 : Value) (T : TypeId) : TB w.heap.size (w.alloc (.cells #[x0, x1, x2, x3] T)) x0 x1 x2 x3 := by
 have f : ∀ i, (w.alloc (.cells #[x0, x1, x2, x3] T)).frozen? ⟨w.heap.size, i, none⟩ = false := fun i => by
  simp only [World.frozen?, World.alloc_heap_new]; simp
 exact ⟨World.cell?_alloc_new _ _ _ 0, World.cell?_alloc_new _ _ _ 1, World.cell?_alloc_new _ _ _ 2, World.cell?_alloc_new _ _ _ 3, f 0, f 1, f 2, f 3, by simp⟩
theorem TB.but {b t : Nat} {W W' : World} {x0 x1 x2 x3 : Value} (h : TB b W x0 x1 x2 x3) (hb : But t W W') (hne : b ≠ t) : TB b W' x0 x1 x2 x3 := h.blk hb.size (hb.block b h.lt hne)
set_option maxRecDepth 100000 in
set_option maxHeartbeats 8000000 in
theorem tapeTerm_any (t : Nat) (l : List Int) : ∀ (D : Nat) (_ : D ≤ 2) (q0 : Nat) (w : World) (_ : TapeAt w t l q0),
  Calls Tryz.prog 130 #[.pointer (some ⟨t, 0, none⟩), .int .i64 (D : Int)] w (TapeTerm t l D w) := by
 intro D
 induction D with
 | zero =>
   intro _ q0 w h
   have htw := h.lt
   have hA : Below w.heap.size w (w.alloc (.cells #[.int .i64 0, .int .i64 0, .int .i64 0, .slice none 0 0] 96)) := (Below.refl _ _).alloc (Nat.le_refl _) _
   have HT0 := Lib.hid (h.below hA)
   have HB0 := Lib.hid (But.of_below (t := t) hA)
   have TB0 := Lib.hid (TB.new w (.int .i64 0) (.int .i64 0) (.int .i64 0) (.slice none 0 0) 96)
   clear h hA
   rw [show ((0 : Nat) : Int) = 0 from rfl]
   obtain ⟨o, eo⟩ : ∃ o, 1 + gives l q0 8 = o := ⟨_, rfl⟩
   have hob := gives_bd l q0 (n := 8) (by omega)
   have RG := Lib.hid (show ∀ W, TapeAt W t l q0 → Calls Tryz.prog 57 #[.pointer (some ⟨t, 0, none⟩), .int .i64 1, .int .i64 8] W (fun e w' => e = .returned (.int .i64 o) ∧ TapeAt w' t l (taken l q0) ∧ But t W w') from fun W hW => by
    have := range_any t l q0 1 8 W hW (by omega) (by omega) (by omega)
    rw [show (8 : Int) - 1 + 1 = 8 from rfl, eo] at this
    exact this)
   obtain ⟨q1, eq1⟩ : ∃ x, taken l q0 = x := ⟨_, rfl⟩
   rw [eq1] at RG
   have hoc : o = 1 ∨ o = 2 ∨ o = 3 ∨ o = 4 ∨ o = 5 ∨ o = 6 ∨ o = 7 ∨ o = 8 := by omega
   clear eo eq1 hob
   rcases hoc with rfl | rfl | rfl | rfl | rfl | rfl | rfl | rfl
   ·go_enter Tryz.func130, Tryz.ntmps130
    go_wp2_with (first | (go_at_call 57; (with_reducible refine Calls.mono (RG.out _ HT0.out) ?_); rintro e w1 ⟨rfl, ht1, hb1⟩; have HB1 := Lib.hid (HB0.out.trans hb1); have TB1 := Lib.hid (TB0.out.but hb1 (Nat.ne_of_gt htw)); have A1 := Lib.hid ((Below.refl w1.heap.size w1).alloc (Nat.le_refl _) (.cells #[.int .i64 1, .int .i64 0, .int .i64 0, .slice none 0 0] 96)); have HT1 := Lib.hid (ht1.below A1.out); have HS1 := Lib.hid (Nat.lt_of_lt_of_le TB0.out.lt hb1.size); obtain ⟨z0, z1, z2, z3, u0, u1, u2, u3, -⟩ := TB1.out.below A1.out; clear ht1 hb1) | fail)
    have FIN := Lib.hid (term_leaf (D := 0) (w := w) 1 0 0 (put4_but (HB1.out.nxt A1.out) (.int .i64 1) (.int .i64 (0)) (.int .i64 (0)) (.slice none 0 0)) ((HT1.out).belowB (put4_below (Nat.le_refl w.heap.size) (.int .i64 1) (.int .i64 (0)) (.int .i64 (0)) (.slice none 0 0)) htw))
    unfold put4 at FIN
    exact bodyPost_ret (v := .agg #[.int .i64 1, .int .i64 (0), .int .i64 (0), .slice none 0 0]) (by simp [results, Tryz.results130, go_sem, z0, z1, z2, z3]) rfl FIN.out
   ·go_enter Tryz.func130, Tryz.ntmps130
    go_wp2_with (first | (go_at_call 57; (with_reducible refine Calls.mono (RG.out _ HT0.out) ?_); rintro e w1 ⟨rfl, ht1, hb1⟩; have HB1 := Lib.hid (HB0.out.trans hb1); have TB1 := Lib.hid (TB0.out.but hb1 (Nat.ne_of_gt htw)); have A1 := Lib.hid ((Below.refl w1.heap.size w1).alloc (Nat.le_refl _) (.cells #[.int .i64 2, .int .i64 0, .int .i64 0, .slice none 0 0] 96)); have HT1 := Lib.hid (ht1.below A1.out); have HS1 := Lib.hid (Nat.lt_of_lt_of_le TB0.out.lt hb1.size); clear ht1 hb1) | fail)
    (with_reducible refine Calls.mono (next_any t l q1 4 _ HT1.out (by decide)) ?_)
    rintro e w2 ⟨rfl, ht2, hb2⟩
    have hgv := gives_bd l q1 (n := 4) (by decide)
    obtain ⟨gv, egv⟩ : ∃ x, gives l q1 4 = x := ⟨_, rfl⟩
    rw [egv]
    rw [egv] at hgv
    obtain ⟨hg0, hg1⟩ := hgv
    clear egv
    have HBX := Lib.hid ((HB1.out.nxt A1.out).trans hb2)
    have HTX := Lib.hid ht2
    obtain ⟨x0, x1, x2, x3, y0, y1, y2, y3, -⟩ := (TB.new w1 (.int .i64 2) (.int .i64 0) (.int .i64 0) (.slice none 0 0) 96).but hb2 (by have := HS1.out; omega)
    obtain ⟨z0, z1, z2, z3, u0, u1, u2, u3, -⟩ := (TB1.out.below A1.out).but hb2 (Nat.ne_of_gt htw)
    have hbz : w1.heap.size ≠ w.heap.size := by have := HS1.out; omega
    have hzb : w.heap.size ≠ w1.heap.size := Ne.symm hbz
    have HLE := Lib.hid (Nat.le_of_lt HS1.out)
    clear ht2 hb2
    go_wp2
    have FIN := Lib.hid (term_leaf (D := 0) (w := w) 2 (gv) 0 (put4_but (HBX.out.stpB (scBelow w2 w1.heap.size 1 (.int .i64 (gv)) HLE.out) (Nat.le_refl _)) (.int .i64 2) (.int .i64 (gv)) (.int .i64 (0)) (.slice none 0 0)) ((HTX.out.belowB (scBelow w2 w1.heap.size 1 (.int .i64 (gv)) HLE.out) htw).belowB (put4_below (Nat.le_refl w.heap.size) (.int .i64 2) (.int .i64 (gv)) (.int .i64 (0)) (.slice none 0 0)) htw))
    unfold put4 at FIN
    exact bodyPost_ret (v := .agg #[.int .i64 2, .int .i64 (gv), .int .i64 (0), .slice none 0 0]) (by simp [results, Tryz.results130, go_sem, z0, z1, z2, z3]) rfl FIN.out
   ·go_enter Tryz.func130, Tryz.ntmps130
    go_wp2_with (first | (go_at_call 57; (with_reducible refine Calls.mono (RG.out _ HT0.out) ?_); rintro e w1 ⟨rfl, ht1, hb1⟩; have HB1 := Lib.hid (HB0.out.trans hb1); have TB1 := Lib.hid (TB0.out.but hb1 (Nat.ne_of_gt htw)); have A1 := Lib.hid ((Below.refl w1.heap.size w1).alloc (Nat.le_refl _) (.cells #[.int .i64 3, .int .i64 0, .int .i64 0, .slice none 0 0] 96)); have HT1 := Lib.hid (ht1.below A1.out); have HS1 := Lib.hid (Nat.lt_of_lt_of_le TB0.out.lt hb1.size); clear ht1 hb1) | fail)
    (with_reducible refine Calls.mono (next_any t l q1 4 _ HT1.out (by decide)) ?_)
    rintro e w2 ⟨rfl, ht2, hb2⟩
    have hgv := gives_bd l q1 (n := 4) (by decide)
    obtain ⟨gv, egv⟩ : ∃ x, gives l q1 4 = x := ⟨_, rfl⟩
    rw [egv]
    rw [egv] at hgv
    obtain ⟨hg0, hg1⟩ := hgv
    clear egv
    have HBX := Lib.hid ((HB1.out.nxt A1.out).trans hb2)
    have HTX := Lib.hid ht2
    obtain ⟨x0, x1, x2, x3, y0, y1, y2, y3, -⟩ := (TB.new w1 (.int .i64 3) (.int .i64 0) (.int .i64 0) (.slice none 0 0) 96).but hb2 (by have := HS1.out; omega)
    obtain ⟨z0, z1, z2, z3, u0, u1, u2, u3, -⟩ := (TB1.out.below A1.out).but hb2 (Nat.ne_of_gt htw)
    have hbz : w1.heap.size ≠ w.heap.size := by have := HS1.out; omega
    have hzb : w.heap.size ≠ w1.heap.size := Ne.symm hbz
    have HLE := Lib.hid (Nat.le_of_lt HS1.out)
    clear ht2 hb2
    go_wp2
    have FIN := Lib.hid (term_leaf (D := 0) (w := w) 3 (gv) 0 (put4_but (HBX.out.stpB (scBelow w2 w1.heap.size 1 (.int .i64 (gv)) HLE.out) (Nat.le_refl _)) (.int .i64 3) (.int .i64 (gv)) (.int .i64 (0)) (.slice none 0 0)) ((HTX.out.belowB (scBelow w2 w1.heap.size 1 (.int .i64 (gv)) HLE.out) htw).belowB (put4_below (Nat.le_refl w.heap.size) (.int .i64 3) (.int .i64 (gv)) (.int .i64 (0)) (.slice none 0 0)) htw))
    unfold put4 at FIN
    exact bodyPost_ret (v := .agg #[.int .i64 3, .int .i64 (gv), .int .i64 (0), .slice none 0 0]) (by simp [results, Tryz.results130, go_sem, z0, z1, z2, z3]) rfl FIN.out
   ·go_enter Tryz.func130, Tryz.ntmps130
    go_wp2_with (first | (go_at_call 57; (with_reducible refine Calls.mono (RG.out _ HT0.out) ?_); rintro e w1 ⟨rfl, ht1, hb1⟩; have HB1 := Lib.hid (HB0.out.trans hb1); have TB1 := Lib.hid (TB0.out.but hb1 (Nat.ne_of_gt htw)); have A1 := Lib.hid ((Below.refl w1.heap.size w1).alloc (Nat.le_refl _) (.cells #[.int .i64 4, .int .i64 0, .int .i64 0, .slice none 0 0] 96)); have HT1 := Lib.hid (ht1.below A1.out); have HS1 := Lib.hid (Nat.lt_of_lt_of_le TB0.out.lt hb1.size); clear ht1 hb1) | fail)
    (with_reducible refine Calls.mono (next_any t l q1 5 _ HT1.out (by decide)) ?_)
    rintro e w2 ⟨rfl, ht2, hb2⟩
    have hgv := gives_bd l q1 (n := 5) (by decide)
    obtain ⟨gv, egv⟩ : ∃ x, gives l q1 5 = x := ⟨_, rfl⟩
    rw [egv]
    rw [egv] at hgv
    obtain ⟨hg0, hg1⟩ := hgv
    clear egv
    have HBX := Lib.hid ((HB1.out.nxt A1.out).trans hb2)
    have HTX := Lib.hid ht2
    obtain ⟨x0, x1, x2, x3, y0, y1, y2, y3, -⟩ := (TB.new w1 (.int .i64 4) (.int .i64 0) (.int .i64 0) (.slice none 0 0) 96).but hb2 (by have := HS1.out; omega)
    obtain ⟨z0, z1, z2, z3, u0, u1, u2, u3, -⟩ := (TB1.out.below A1.out).but hb2 (Nat.ne_of_gt htw)
    have hbz : w1.heap.size ≠ w.heap.size := by have := HS1.out; omega
    have hzb : w.heap.size ≠ w1.heap.size := Ne.symm hbz
    have HLE := Lib.hid (Nat.le_of_lt HS1.out)
    clear ht2 hb2
    go_wp2
    have FIN := Lib.hid (term_leaf (D := 0) (w := w) 4 (wrap64 (2 ^ gv.toNat)) 0 (put4_but (HBX.out.stpB (scBelow w2 w1.heap.size 1 (.int .i64 (wrap64 (2 ^ gv.toNat))) HLE.out) (Nat.le_refl _)) (.int .i64 4) (.int .i64 (wrap64 (2 ^ gv.toNat))) (.int .i64 (0)) (.slice none 0 0)) ((HTX.out.belowB (scBelow w2 w1.heap.size 1 (.int .i64 (wrap64 (2 ^ gv.toNat))) HLE.out) htw).belowB (put4_below (Nat.le_refl w.heap.size) (.int .i64 4) (.int .i64 (wrap64 (2 ^ gv.toNat))) (.int .i64 (0)) (.slice none 0 0)) htw))
    unfold put4 at FIN
    exact bodyPost_ret (v := .agg #[.int .i64 4, .int .i64 (wrap64 (2 ^ gv.toNat)), .int .i64 (0), .slice none 0 0]) (by simp [results, Tryz.results130, go_sem, z0, z1, z2, z3]) rfl FIN.out
   ·go_enter Tryz.func130, Tryz.ntmps130
    go_wp2_with (first | (go_at_call 57; (with_reducible refine Calls.mono (RG.out _ HT0.out) ?_); rintro e w1 ⟨rfl, ht1, hb1⟩; have HB1 := Lib.hid (HB0.out.trans hb1); have TB1 := Lib.hid (TB0.out.but hb1 (Nat.ne_of_gt htw)); have A1 := Lib.hid ((Below.refl w1.heap.size w1).alloc (Nat.le_refl _) (.cells #[.int .i64 5, .int .i64 0, .int .i64 0, .slice none 0 0] 96)); have HT1 := Lib.hid (ht1.below A1.out); have HS1 := Lib.hid (Nat.lt_of_lt_of_le TB0.out.lt hb1.size); clear ht1 hb1) | fail)
    (with_reducible refine Calls.mono (next_any t l q1 16 _ HT1.out (by decide)) ?_)
    rintro e w2 ⟨rfl, ht2, hb2⟩
    have hgv := gives_bd l q1 (n := 16) (by decide)
    obtain ⟨gv, egv⟩ : ∃ x, gives l q1 16 = x := ⟨_, rfl⟩
    rw [egv]
    rw [egv] at hgv
    obtain ⟨hg0, hg1⟩ := hgv
    clear egv
    have HBX := Lib.hid ((HB1.out.nxt A1.out).trans hb2)
    have HTX := Lib.hid ht2
    obtain ⟨x0, x1, x2, x3, y0, y1, y2, y3, -⟩ := (TB.new w1 (.int .i64 5) (.int .i64 0) (.int .i64 0) (.slice none 0 0) 96).but hb2 (by have := HS1.out; omega)
    obtain ⟨z0, z1, z2, z3, u0, u1, u2, u3, -⟩ := (TB1.out.below A1.out).but hb2 (Nat.ne_of_gt htw)
    have hbz : w1.heap.size ≠ w.heap.size := by have := HS1.out; omega
    have hzb : w.heap.size ≠ w1.heap.size := Ne.symm hbz
    have HLE := Lib.hid (Nat.le_of_lt HS1.out)
    clear ht2 hb2
    go_wp2
    have FIN := Lib.hid (term_leaf (D := 0) (w := w) 5 (gv) 0 (put4_but (HBX.out.stpB (scBelow w2 w1.heap.size 1 (.int .i64 (gv)) HLE.out) (Nat.le_refl _)) (.int .i64 5) (.int .i64 (gv)) (.int .i64 (0)) (.slice none 0 0)) ((HTX.out.belowB (scBelow w2 w1.heap.size 1 (.int .i64 (gv)) HLE.out) htw).belowB (put4_below (Nat.le_refl w.heap.size) (.int .i64 5) (.int .i64 (gv)) (.int .i64 (0)) (.slice none 0 0)) htw))
    unfold put4 at FIN
    exact bodyPost_ret (v := .agg #[.int .i64 5, .int .i64 (gv), .int .i64 (0), .slice none 0 0]) (by simp [results, Tryz.results130, go_sem, z0, z1, z2, z3]) rfl FIN.out
   ·go_enter Tryz.func130, Tryz.ntmps130
    go_wp2_with (first | (go_at_call 57; (with_reducible refine Calls.mono (RG.out _ HT0.out) ?_); rintro e w1 ⟨rfl, ht1, hb1⟩; have HB1 := Lib.hid (HB0.out.trans hb1); have TB1 := Lib.hid (TB0.out.but hb1 (Nat.ne_of_gt htw)); have A1 := Lib.hid ((Below.refl w1.heap.size w1).alloc (Nat.le_refl _) (.cells #[.int .i64 6, .int .i64 0, .int .i64 0, .slice none 0 0] 96)); have HT1 := Lib.hid (ht1.below A1.out); have HS1 := Lib.hid (Nat.lt_of_lt_of_le TB0.out.lt hb1.size); clear ht1 hb1) | fail)
    (with_reducible refine Calls.mono (range_any t l q1 2 3 _ HT1.out (by decide) (by decide) (by decide)) ?_)
    rintro e w2 ⟨rfl, ht2, hb2⟩
    obtain ⟨gv, egv⟩ : ∃ x, 2 + gives l q1 (3 - 2 + 1) = x := ⟨_, rfl⟩
    rw [egv]
    clear egv
    have HBX := Lib.hid ((HB1.out.nxt A1.out).trans hb2)
    have HTX := Lib.hid ht2
    obtain ⟨x0, x1, x2, x3, y0, y1, y2, y3, -⟩ := (TB.new w1 (.int .i64 6) (.int .i64 0) (.int .i64 0) (.slice none 0 0) 96).but hb2 (by have := HS1.out; omega)
    obtain ⟨z0, z1, z2, z3, u0, u1, u2, u3, -⟩ := (TB1.out.below A1.out).but hb2 (Nat.ne_of_gt htw)
    have hbz : w1.heap.size ≠ w.heap.size := by have := HS1.out; omega
    have hzb : w.heap.size ≠ w1.heap.size := Ne.symm hbz
    have HLE := Lib.hid (Nat.le_of_lt HS1.out)
    clear ht2 hb2
    go_wp2
    have FIN := Lib.hid (term_leaf (D := 0) (w := w) 6 (gv) 0 (put4_but (HBX.out.stpB (scBelow w2 w1.heap.size 1 (.int .i64 (gv)) HLE.out) (Nat.le_refl _)) (.int .i64 6) (.int .i64 (gv)) (.int .i64 (0)) (.slice none 0 0)) ((HTX.out.belowB (scBelow w2 w1.heap.size 1 (.int .i64 (gv)) HLE.out) htw).belowB (put4_below (Nat.le_refl w.heap.size) (.int .i64 6) (.int .i64 (gv)) (.int .i64 (0)) (.slice none 0 0)) htw))
    unfold put4 at FIN
    exact bodyPost_ret (v := .agg #[.int .i64 6, .int .i64 (gv), .int .i64 (0), .slice none 0 0]) (by simp [results, Tryz.results130, go_sem, z0, z1, z2, z3]) rfl FIN.out
   ·go_enter Tryz.func130, Tryz.ntmps130
    go_wp2_with (first | (go_at_call 57; (with_reducible refine Calls.mono (RG.out _ HT0.out) ?_); rintro e w1 ⟨rfl, ht1, hb1⟩; have HB1 := Lib.hid (HB0.out.trans hb1); have TB1 := Lib.hid (TB0.out.but hb1 (Nat.ne_of_gt htw)); have A1 := Lib.hid ((Below.refl w1.heap.size w1).alloc (Nat.le_refl _) (.cells #[.int .i64 7, .int .i64 0, .int .i64 0, .slice none 0 0] 96)); have HT1 := Lib.hid (ht1.below A1.out); have HS1 := Lib.hid (Nat.lt_of_lt_of_le TB0.out.lt hb1.size); clear ht1 hb1) | fail)
    obtain ⟨ga, ega⟩ : ∃ x, 1 + gives l q1 (2 - 1 + 1) = x := ⟨_, rfl⟩
    obtain ⟨q2, eq2⟩ : ∃ x, taken l q1 = x := ⟨_, rfl⟩
    have R2 := Lib.hid (fun (W : World) (hW : TapeAt W t l q1) => eq2 ▸ ega ▸ range_any t l q1 1 2 W hW (by omega) (by omega) (by omega))
    have hgv := gives_bd l q2 (n := 5) (by decide)
    obtain ⟨gv, egv⟩ : ∃ x, gives l q2 5 = x := ⟨_, rfl⟩
    rw [egv] at hgv
    obtain ⟨hg0, hg1⟩ := hgv
    have R3 := Lib.hid (fun (W : World) (hW : TapeAt W t l q2) => egv ▸ next_any t l q2 5 W hW (by omega))
    clear ega eq2 egv
    have hbz : w1.heap.size ≠ w.heap.size := by have := HS1.out; omega
    have hzb : w.heap.size ≠ w1.heap.size := Ne.symm hbz
    have HLE := Lib.hid (Nat.le_of_lt HS1.out)
    have htw1 : w1.heap.size ≠ t := by have := HS1.out; omega
    have HT1d := Lib.hid (HT1.out.below (Below.refl _ _).drew)
    obtain ⟨WX, eWX⟩ : ∃ W : World, (w1.alloc (.cells #[.int .i64 7, .int .i64 0, .int .i64 0, .slice none 0 0] 96)).drew = W := ⟨_, rfl⟩
    have TX := Lib.hid (show TB w1.heap.size WX (.int .i64 7) (.int .i64 0) (.int .i64 0) (.slice none 0 0) from eWX ▸ (TB.new w1 (.int .i64 7) (.int .i64 0) (.int .i64 0) (.slice none 0 0) 96).below (Below.refl _ _).drew)
    have TZ := Lib.hid (show TB w.heap.size WX (.int .i64 0) (.int .i64 0) (.int .i64 0) (.slice none 0 0) from eWX ▸ (TB1.out.below A1.out).below (Below.refl _ _).drew)
    have BX := Lib.hid (show But t w WX from eWX ▸ (HB1.out.nxt A1.out).drew)
    rw [eWX] at HT1d
    go_region_with (first | (go_at_call 57; refine Calls.mono (R2.out _ HT1d.out) ?_; rintro e w2 ⟨rfl, ht2, hb2⟩; have TX2 := Lib.hid (TX.out.but hb2 htw1); have TZ2 := Lib.hid (TZ.out.but hb2 (Nat.ne_of_gt htw)); have BX2 := Lib.hid (BX.out.trans hb2); have HT2 := Lib.hid ht2; clear ht2 hb2) | (go_at_call 37; refine Calls.mono (R3.out _ HT2.out) ?_; rintro e w3 ⟨rfl, ht3, hb3⟩; have BX3 := Lib.hid (BX2.out.trans hb3); obtain ⟨x0, x1, x2, x3, y0, y1, y2, y3, -⟩ := TX2.out.but hb3 htw1; obtain ⟨z0, z1, z2, z3, u0, u1, u2, u3, -⟩ := TZ2.out.but hb3 (Nat.ne_of_gt htw); have HT3 := Lib.hid ht3; clear ht3 hb3))
    go_wp2
    have HQ := Lib.hid ((BX3.out.stpB (scBelow w3 w1.heap.size 1 (.int .i64 ga) HLE.out) (Nat.le_refl _)).stpB (scBelow (w3.setCell ⟨w1.heap.size, 1, none⟩ (.int .i64 ga)) w1.heap.size 2 (.int .i64 (wrap64 (2 ^ gv.toNat))) HLE.out) (Nat.le_refl _))
    have HQT := Lib.hid ((HT3.out.belowB (scBelow w3 w1.heap.size 1 (.int .i64 ga) HLE.out) htw).belowB (scBelow (w3.setCell ⟨w1.heap.size, 1, none⟩ (.int .i64 ga)) w1.heap.size 2 (.int .i64 (wrap64 (2 ^ gv.toNat))) HLE.out) htw)
    have FIN := Lib.hid (term_leaf (D := 0) (w := w) 7 (ga) (wrap64 (2 ^ gv.toNat)) (put4_but (HQ.out) (.int .i64 7) (.int .i64 (ga)) (.int .i64 (wrap64 (2 ^ gv.toNat))) (.slice none 0 0)) ((HQT.out).belowB (put4_below (Nat.le_refl w.heap.size) (.int .i64 7) (.int .i64 (ga)) (.int .i64 (wrap64 (2 ^ gv.toNat))) (.slice none 0 0)) htw))
    unfold put4 at FIN
    exact bodyPost_ret (v := .agg #[.int .i64 7, .int .i64 (ga), .int .i64 (wrap64 (2 ^ gv.toNat)), .slice none 0 0]) (by simp [results, Tryz.results130, go_sem, z0, z1, z2, z3]) rfl FIN.out
   ·go_enter Tryz.func130, Tryz.ntmps130
    go_wp2_with (first | (go_at_call 57; (with_reducible refine Calls.mono (RG.out _ HT0.out) ?_); rintro e w1 ⟨rfl, ht1, hb1⟩; have HB1 := Lib.hid (HB0.out.trans hb1); have TB1 := Lib.hid (TB0.out.but hb1 (Nat.ne_of_gt htw)); have A1 := Lib.hid ((Below.refl w1.heap.size w1).alloc (Nat.le_refl _) (.cells #[.int .i64 8, .int .i64 0, .int .i64 0, .slice none 0 0] 96)); have HT1 := Lib.hid (ht1.below A1.out); have HS1 := Lib.hid (Nat.lt_of_lt_of_le TB0.out.lt hb1.size); clear ht1 hb1) | fail)
    (with_reducible refine Calls.mono (range_any t l q1 1 3 _ HT1.out (by decide) (by decide) (by decide)) ?_)
    rintro e w2 ⟨rfl, ht2, hb2⟩
    obtain ⟨gv, egv⟩ : ∃ x, 1 + gives l q1 (3 - 1 + 1) = x := ⟨_, rfl⟩
    rw [egv]
    clear egv
    have HBX := Lib.hid ((HB1.out.nxt A1.out).trans hb2)
    have HTX := Lib.hid ht2
    obtain ⟨x0, x1, x2, x3, y0, y1, y2, y3, -⟩ := (TB.new w1 (.int .i64 8) (.int .i64 0) (.int .i64 0) (.slice none 0 0) 96).but hb2 (by have := HS1.out; omega)
    obtain ⟨z0, z1, z2, z3, u0, u1, u2, u3, -⟩ := (TB1.out.below A1.out).but hb2 (Nat.ne_of_gt htw)
    have hbz : w1.heap.size ≠ w.heap.size := by have := HS1.out; omega
    have hzb : w.heap.size ≠ w1.heap.size := Ne.symm hbz
    have HLE := Lib.hid (Nat.le_of_lt HS1.out)
    clear ht2 hb2
    go_wp2
    have FIN := Lib.hid (term_leaf (D := 0) (w := w) 8 (gv) 0 (put4_but (HBX.out.stpB (scBelow w2 w1.heap.size 1 (.int .i64 (gv)) HLE.out) (Nat.le_refl _)) (.int .i64 8) (.int .i64 (gv)) (.int .i64 (0)) (.slice none 0 0)) ((HTX.out.belowB (scBelow w2 w1.heap.size 1 (.int .i64 (gv)) HLE.out) htw).belowB (put4_below (Nat.le_refl w.heap.size) (.int .i64 8) (.int .i64 (gv)) (.int .i64 (0)) (.slice none 0 0)) htw))
    unfold put4 at FIN
    exact bodyPost_ret (v := .agg #[.int .i64 8, .int .i64 (gv), .int .i64 (0), .slice none 0 0]) (by simp [results, Tryz.results130, go_sem, z0, z1, z2, z3]) rfl FIN.out
    
 | succ D ih =>
   intro hD q0 w h
   have htw := h.lt
   have hA : Below w.heap.size w (w.alloc (.cells #[.int .i64 0, .int .i64 0, .int .i64 0, .slice none 0 0] 96)) := (Below.refl _ _).alloc (Nat.le_refl _) _
   have HT0 := Lib.hid (h.below hA)
   have HB0 := Lib.hid (But.of_below (t := t) hA)
   have TB0 := Lib.hid (TB.new w (.int .i64 0) (.int .i64 0) (.int .i64 0) (.slice none 0 0) 96)
   clear h hA
   obtain ⟨i, ei⟩ : ∃ i : Int, ((D + 1 : Nat) : Int) = i := ⟨_, rfl⟩
   have hi0 : 0 < i := by omega
   have hi3 : i ≤ 2 := by omega
   have hid : (D : Int) = i - 1 := by omega
   have IH := Lib.hid (show ∀ q W, TapeAt W t l q → Calls Tryz.prog 130 #[.pointer (some ⟨t, 0, none⟩), .int .i64 (i - 1)] W (TapeTerm t l D W) from fun q W hW => hid ▸ ih (by omega) q W hW)
   obtain ⟨z, ez⟩ : ∃ z, (gives l q0 2 == 2 - 1) = z := ⟨_, rfl⟩
   obtain ⟨qa, eqa⟩ : ∃ q, taken l q0 = q := ⟨_, rfl⟩
   have ON := Lib.hid (show ∀ W, TapeAt W t l q0 → Calls Tryz.prog 56 #[.pointer (some ⟨t, 0, none⟩), .int .i64 2] W (fun e w' => e = .returned (.bool z) ∧ TapeAt w' t l qa ∧ But t W w') from fun W hW => by
    have := one_any t l q0 2 W hW (by omega) (by omega)
    rw [ez, eqa] at this
    exact this)
   rw [ei]
   clear ez eqa ih ei hid
   cases z
   ·obtain ⟨o, eo⟩ : ∃ o, 1 + gives l qa 8 = o := ⟨_, rfl⟩
    have hob := gives_bd l qa (n := 8) (by omega)
    have RG := Lib.hid (show ∀ W, TapeAt W t l qa → Calls Tryz.prog 57 #[.pointer (some ⟨t, 0, none⟩), .int .i64 1, .int .i64 8] W (fun e w' => e = .returned (.int .i64 o) ∧ TapeAt w' t l (taken l qa) ∧ But t W w') from fun W hW => by
     have := range_any t l qa 1 8 W hW (by omega) (by omega) (by omega)
     rw [show (8 : Int) - 1 + 1 = 8 from rfl, eo] at this
     exact this)
    obtain ⟨q1, eq1⟩ : ∃ x, taken l qa = x := ⟨_, rfl⟩
    rw [eq1] at RG
    have hoc : o = 1 ∨ o = 2 ∨ o = 3 ∨ o = 4 ∨ o = 5 ∨ o = 6 ∨ o = 7 ∨ o = 8 := by omega
    clear eo eq1 hob
    rcases hoc with rfl | rfl | rfl | rfl | rfl | rfl | rfl | rfl
    ·go_enter Tryz.func130, Tryz.ntmps130
     go_wp2_with (first | (go_at_call 56; (with_reducible refine Calls.mono (ON.out _ HT0.out) ?_); rintro e wa ⟨rfl, hta, hba⟩; have HTa := Lib.hid hta; have HBa := Lib.hid (HB0.out.trans hba); have TBa := Lib.hid (TB0.out.but hba (Nat.ne_of_gt htw)); clear hta hba) | (go_at_call 57; (with_reducible refine Calls.mono (RG.out _ HTa.out) ?_); rintro e w1 ⟨rfl, ht1, hb1⟩; have HB1 := Lib.hid (HBa.out.trans hb1); have TB1 := Lib.hid (TBa.out.but hb1 (Nat.ne_of_gt htw)); have A1 := Lib.hid ((Below.refl w1.heap.size w1).alloc (Nat.le_refl _) (.cells #[.int .i64 1, .int .i64 0, .int .i64 0, .slice none 0 0] 96)); have HT1 := Lib.hid (ht1.below A1.out); have HS1 := Lib.hid (Nat.lt_of_lt_of_le TBa.out.lt hb1.size); obtain ⟨z0, z1, z2, z3, u0, u1, u2, u3, -⟩ := TB1.out.below A1.out; clear ht1 hb1) | fail)
     have FIN := Lib.hid (term_leaf (D := D + 1) (w := w) 1 0 0 (put4_but (HB1.out.nxt A1.out) (.int .i64 1) (.int .i64 (0)) (.int .i64 (0)) (.slice none 0 0)) ((HT1.out).belowB (put4_below (Nat.le_refl w.heap.size) (.int .i64 1) (.int .i64 (0)) (.int .i64 (0)) (.slice none 0 0)) htw))
     unfold put4 at FIN
     exact bodyPost_ret (v := .agg #[.int .i64 1, .int .i64 (0), .int .i64 (0), .slice none 0 0]) (by simp [results, Tryz.results130, go_sem, z0, z1, z2, z3]) rfl FIN.out
    ·go_enter Tryz.func130, Tryz.ntmps130
     go_wp2_with (first | (go_at_call 56; (with_reducible refine Calls.mono (ON.out _ HT0.out) ?_); rintro e wa ⟨rfl, hta, hba⟩; have HTa := Lib.hid hta; have HBa := Lib.hid (HB0.out.trans hba); have TBa := Lib.hid (TB0.out.but hba (Nat.ne_of_gt htw)); clear hta hba) | (go_at_call 57; (with_reducible refine Calls.mono (RG.out _ HTa.out) ?_); rintro e w1 ⟨rfl, ht1, hb1⟩; have HB1 := Lib.hid (HBa.out.trans hb1); have TB1 := Lib.hid (TBa.out.but hb1 (Nat.ne_of_gt htw)); have A1 := Lib.hid ((Below.refl w1.heap.size w1).alloc (Nat.le_refl _) (.cells #[.int .i64 2, .int .i64 0, .int .i64 0, .slice none 0 0] 96)); have HT1 := Lib.hid (ht1.below A1.out); have HS1 := Lib.hid (Nat.lt_of_lt_of_le TBa.out.lt hb1.size); clear ht1 hb1) | fail)
     (with_reducible refine Calls.mono (next_any t l q1 4 _ HT1.out (by decide)) ?_)
     rintro e w2 ⟨rfl, ht2, hb2⟩
     have hgv := gives_bd l q1 (n := 4) (by decide)
     obtain ⟨gv, egv⟩ : ∃ x, gives l q1 4 = x := ⟨_, rfl⟩
     rw [egv]
     rw [egv] at hgv
     obtain ⟨hg0, hg1⟩ := hgv
     clear egv
     have HBX := Lib.hid ((HB1.out.nxt A1.out).trans hb2)
     have HTX := Lib.hid ht2
     obtain ⟨x0, x1, x2, x3, y0, y1, y2, y3, -⟩ := (TB.new w1 (.int .i64 2) (.int .i64 0) (.int .i64 0) (.slice none 0 0) 96).but hb2 (by have := HS1.out; omega)
     obtain ⟨z0, z1, z2, z3, u0, u1, u2, u3, -⟩ := (TB1.out.below A1.out).but hb2 (Nat.ne_of_gt htw)
     have hbz : w1.heap.size ≠ w.heap.size := by have := HS1.out; omega
     have hzb : w.heap.size ≠ w1.heap.size := Ne.symm hbz
     have HLE := Lib.hid (Nat.le_of_lt HS1.out)
     clear ht2 hb2
     go_wp2
     have FIN := Lib.hid (term_leaf (D := D + 1) (w := w) 2 (gv) 0 (put4_but (HBX.out.stpB (scBelow w2 w1.heap.size 1 (.int .i64 (gv)) HLE.out) (Nat.le_refl _)) (.int .i64 2) (.int .i64 (gv)) (.int .i64 (0)) (.slice none 0 0)) ((HTX.out.belowB (scBelow w2 w1.heap.size 1 (.int .i64 (gv)) HLE.out) htw).belowB (put4_below (Nat.le_refl w.heap.size) (.int .i64 2) (.int .i64 (gv)) (.int .i64 (0)) (.slice none 0 0)) htw))
     unfold put4 at FIN
     exact bodyPost_ret (v := .agg #[.int .i64 2, .int .i64 (gv), .int .i64 (0), .slice none 0 0]) (by simp [results, Tryz.results130, go_sem, z0, z1, z2, z3]) rfl FIN.out
    ·go_enter Tryz.func130, Tryz.ntmps130
     go_wp2_with (first | (go_at_call 56; (with_reducible refine Calls.mono (ON.out _ HT0.out) ?_); rintro e wa ⟨rfl, hta, hba⟩; have HTa := Lib.hid hta; have HBa := Lib.hid (HB0.out.trans hba); have TBa := Lib.hid (TB0.out.but hba (Nat.ne_of_gt htw)); clear hta hba) | (go_at_call 57; (with_reducible refine Calls.mono (RG.out _ HTa.out) ?_); rintro e w1 ⟨rfl, ht1, hb1⟩; have HB1 := Lib.hid (HBa.out.trans hb1); have TB1 := Lib.hid (TBa.out.but hb1 (Nat.ne_of_gt htw)); have A1 := Lib.hid ((Below.refl w1.heap.size w1).alloc (Nat.le_refl _) (.cells #[.int .i64 3, .int .i64 0, .int .i64 0, .slice none 0 0] 96)); have HT1 := Lib.hid (ht1.below A1.out); have HS1 := Lib.hid (Nat.lt_of_lt_of_le TBa.out.lt hb1.size); clear ht1 hb1) | fail)
     (with_reducible refine Calls.mono (next_any t l q1 4 _ HT1.out (by decide)) ?_)
     rintro e w2 ⟨rfl, ht2, hb2⟩
     have hgv := gives_bd l q1 (n := 4) (by decide)
     obtain ⟨gv, egv⟩ : ∃ x, gives l q1 4 = x := ⟨_, rfl⟩
     rw [egv]
     rw [egv] at hgv
     obtain ⟨hg0, hg1⟩ := hgv
     clear egv
     have HBX := Lib.hid ((HB1.out.nxt A1.out).trans hb2)
     have HTX := Lib.hid ht2
     obtain ⟨x0, x1, x2, x3, y0, y1, y2, y3, -⟩ := (TB.new w1 (.int .i64 3) (.int .i64 0) (.int .i64 0) (.slice none 0 0) 96).but hb2 (by have := HS1.out; omega)
     obtain ⟨z0, z1, z2, z3, u0, u1, u2, u3, -⟩ := (TB1.out.below A1.out).but hb2 (Nat.ne_of_gt htw)
     have hbz : w1.heap.size ≠ w.heap.size := by have := HS1.out; omega
     have hzb : w.heap.size ≠ w1.heap.size := Ne.symm hbz
     have HLE := Lib.hid (Nat.le_of_lt HS1.out)
     clear ht2 hb2
     go_wp2
     have FIN := Lib.hid (term_leaf (D := D + 1) (w := w) 3 (gv) 0 (put4_but (HBX.out.stpB (scBelow w2 w1.heap.size 1 (.int .i64 (gv)) HLE.out) (Nat.le_refl _)) (.int .i64 3) (.int .i64 (gv)) (.int .i64 (0)) (.slice none 0 0)) ((HTX.out.belowB (scBelow w2 w1.heap.size 1 (.int .i64 (gv)) HLE.out) htw).belowB (put4_below (Nat.le_refl w.heap.size) (.int .i64 3) (.int .i64 (gv)) (.int .i64 (0)) (.slice none 0 0)) htw))
     unfold put4 at FIN
     exact bodyPost_ret (v := .agg #[.int .i64 3, .int .i64 (gv), .int .i64 (0), .slice none 0 0]) (by simp [results, Tryz.results130, go_sem, z0, z1, z2, z3]) rfl FIN.out
    ·go_enter Tryz.func130, Tryz.ntmps130
     go_wp2_with (first | (go_at_call 56; (with_reducible refine Calls.mono (ON.out _ HT0.out) ?_); rintro e wa ⟨rfl, hta, hba⟩; have HTa := Lib.hid hta; have HBa := Lib.hid (HB0.out.trans hba); have TBa := Lib.hid (TB0.out.but hba (Nat.ne_of_gt htw)); clear hta hba) | (go_at_call 57; (with_reducible refine Calls.mono (RG.out _ HTa.out) ?_); rintro e w1 ⟨rfl, ht1, hb1⟩; have HB1 := Lib.hid (HBa.out.trans hb1); have TB1 := Lib.hid (TBa.out.but hb1 (Nat.ne_of_gt htw)); have A1 := Lib.hid ((Below.refl w1.heap.size w1).alloc (Nat.le_refl _) (.cells #[.int .i64 4, .int .i64 0, .int .i64 0, .slice none 0 0] 96)); have HT1 := Lib.hid (ht1.below A1.out); have HS1 := Lib.hid (Nat.lt_of_lt_of_le TBa.out.lt hb1.size); clear ht1 hb1) | fail)
     (with_reducible refine Calls.mono (next_any t l q1 5 _ HT1.out (by decide)) ?_)
     rintro e w2 ⟨rfl, ht2, hb2⟩
     have hgv := gives_bd l q1 (n := 5) (by decide)
     obtain ⟨gv, egv⟩ : ∃ x, gives l q1 5 = x := ⟨_, rfl⟩
     rw [egv]
     rw [egv] at hgv
     obtain ⟨hg0, hg1⟩ := hgv
     clear egv
     have HBX := Lib.hid ((HB1.out.nxt A1.out).trans hb2)
     have HTX := Lib.hid ht2
     obtain ⟨x0, x1, x2, x3, y0, y1, y2, y3, -⟩ := (TB.new w1 (.int .i64 4) (.int .i64 0) (.int .i64 0) (.slice none 0 0) 96).but hb2 (by have := HS1.out; omega)
     obtain ⟨z0, z1, z2, z3, u0, u1, u2, u3, -⟩ := (TB1.out.below A1.out).but hb2 (Nat.ne_of_gt htw)
     have hbz : w1.heap.size ≠ w.heap.size := by have := HS1.out; omega
     have hzb : w.heap.size ≠ w1.heap.size := Ne.symm hbz
     have HLE := Lib.hid (Nat.le_of_lt HS1.out)
     clear ht2 hb2
     go_wp2
     have FIN := Lib.hid (term_leaf (D := D + 1) (w := w) 4 (wrap64 (2 ^ gv.toNat)) 0 (put4_but (HBX.out.stpB (scBelow w2 w1.heap.size 1 (.int .i64 (wrap64 (2 ^ gv.toNat))) HLE.out) (Nat.le_refl _)) (.int .i64 4) (.int .i64 (wrap64 (2 ^ gv.toNat))) (.int .i64 (0)) (.slice none 0 0)) ((HTX.out.belowB (scBelow w2 w1.heap.size 1 (.int .i64 (wrap64 (2 ^ gv.toNat))) HLE.out) htw).belowB (put4_below (Nat.le_refl w.heap.size) (.int .i64 4) (.int .i64 (wrap64 (2 ^ gv.toNat))) (.int .i64 (0)) (.slice none 0 0)) htw))
     unfold put4 at FIN
     exact bodyPost_ret (v := .agg #[.int .i64 4, .int .i64 (wrap64 (2 ^ gv.toNat)), .int .i64 (0), .slice none 0 0]) (by simp [results, Tryz.results130, go_sem, z0, z1, z2, z3]) rfl FIN.out
    ·go_enter Tryz.func130, Tryz.ntmps130
     go_wp2_with (first | (go_at_call 56; (with_reducible refine Calls.mono (ON.out _ HT0.out) ?_); rintro e wa ⟨rfl, hta, hba⟩; have HTa := Lib.hid hta; have HBa := Lib.hid (HB0.out.trans hba); have TBa := Lib.hid (TB0.out.but hba (Nat.ne_of_gt htw)); clear hta hba) | (go_at_call 57; (with_reducible refine Calls.mono (RG.out _ HTa.out) ?_); rintro e w1 ⟨rfl, ht1, hb1⟩; have HB1 := Lib.hid (HBa.out.trans hb1); have TB1 := Lib.hid (TBa.out.but hb1 (Nat.ne_of_gt htw)); have A1 := Lib.hid ((Below.refl w1.heap.size w1).alloc (Nat.le_refl _) (.cells #[.int .i64 5, .int .i64 0, .int .i64 0, .slice none 0 0] 96)); have HT1 := Lib.hid (ht1.below A1.out); have HS1 := Lib.hid (Nat.lt_of_lt_of_le TBa.out.lt hb1.size); clear ht1 hb1) | fail)
     (with_reducible refine Calls.mono (next_any t l q1 16 _ HT1.out (by decide)) ?_)
     rintro e w2 ⟨rfl, ht2, hb2⟩
     have hgv := gives_bd l q1 (n := 16) (by decide)
     obtain ⟨gv, egv⟩ : ∃ x, gives l q1 16 = x := ⟨_, rfl⟩
     rw [egv]
     rw [egv] at hgv
     obtain ⟨hg0, hg1⟩ := hgv
     clear egv
     have HBX := Lib.hid ((HB1.out.nxt A1.out).trans hb2)
     have HTX := Lib.hid ht2
     obtain ⟨x0, x1, x2, x3, y0, y1, y2, y3, -⟩ := (TB.new w1 (.int .i64 5) (.int .i64 0) (.int .i64 0) (.slice none 0 0) 96).but hb2 (by have := HS1.out; omega)
     obtain ⟨z0, z1, z2, z3, u0, u1, u2, u3, -⟩ := (TB1.out.below A1.out).but hb2 (Nat.ne_of_gt htw)
     have hbz : w1.heap.size ≠ w.heap.size := by have := HS1.out; omega
     have hzb : w.heap.size ≠ w1.heap.size := Ne.symm hbz
     have HLE := Lib.hid (Nat.le_of_lt HS1.out)
     clear ht2 hb2
     go_wp2
     have FIN := Lib.hid (term_leaf (D := D + 1) (w := w) 5 (gv) 0 (put4_but (HBX.out.stpB (scBelow w2 w1.heap.size 1 (.int .i64 (gv)) HLE.out) (Nat.le_refl _)) (.int .i64 5) (.int .i64 (gv)) (.int .i64 (0)) (.slice none 0 0)) ((HTX.out.belowB (scBelow w2 w1.heap.size 1 (.int .i64 (gv)) HLE.out) htw).belowB (put4_below (Nat.le_refl w.heap.size) (.int .i64 5) (.int .i64 (gv)) (.int .i64 (0)) (.slice none 0 0)) htw))
     unfold put4 at FIN
     exact bodyPost_ret (v := .agg #[.int .i64 5, .int .i64 (gv), .int .i64 (0), .slice none 0 0]) (by simp [results, Tryz.results130, go_sem, z0, z1, z2, z3]) rfl FIN.out
    ·go_enter Tryz.func130, Tryz.ntmps130
     go_wp2_with (first | (go_at_call 56; (with_reducible refine Calls.mono (ON.out _ HT0.out) ?_); rintro e wa ⟨rfl, hta, hba⟩; have HTa := Lib.hid hta; have HBa := Lib.hid (HB0.out.trans hba); have TBa := Lib.hid (TB0.out.but hba (Nat.ne_of_gt htw)); clear hta hba) | (go_at_call 57; (with_reducible refine Calls.mono (RG.out _ HTa.out) ?_); rintro e w1 ⟨rfl, ht1, hb1⟩; have HB1 := Lib.hid (HBa.out.trans hb1); have TB1 := Lib.hid (TBa.out.but hb1 (Nat.ne_of_gt htw)); have A1 := Lib.hid ((Below.refl w1.heap.size w1).alloc (Nat.le_refl _) (.cells #[.int .i64 6, .int .i64 0, .int .i64 0, .slice none 0 0] 96)); have HT1 := Lib.hid (ht1.below A1.out); have HS1 := Lib.hid (Nat.lt_of_lt_of_le TBa.out.lt hb1.size); clear ht1 hb1) | fail)
     (with_reducible refine Calls.mono (range_any t l q1 2 3 _ HT1.out (by decide) (by decide) (by decide)) ?_)
     rintro e w2 ⟨rfl, ht2, hb2⟩
     obtain ⟨gv, egv⟩ : ∃ x, 2 + gives l q1 (3 - 2 + 1) = x := ⟨_, rfl⟩
     rw [egv]
     clear egv
     have HBX := Lib.hid ((HB1.out.nxt A1.out).trans hb2)
     have HTX := Lib.hid ht2
     obtain ⟨x0, x1, x2, x3, y0, y1, y2, y3, -⟩ := (TB.new w1 (.int .i64 6) (.int .i64 0) (.int .i64 0) (.slice none 0 0) 96).but hb2 (by have := HS1.out; omega)
     obtain ⟨z0, z1, z2, z3, u0, u1, u2, u3, -⟩ := (TB1.out.below A1.out).but hb2 (Nat.ne_of_gt htw)
     have hbz : w1.heap.size ≠ w.heap.size := by have := HS1.out; omega
     have hzb : w.heap.size ≠ w1.heap.size := Ne.symm hbz
     have HLE := Lib.hid (Nat.le_of_lt HS1.out)
     clear ht2 hb2
     go_wp2
     have FIN := Lib.hid (term_leaf (D := D + 1) (w := w) 6 (gv) 0 (put4_but (HBX.out.stpB (scBelow w2 w1.heap.size 1 (.int .i64 (gv)) HLE.out) (Nat.le_refl _)) (.int .i64 6) (.int .i64 (gv)) (.int .i64 (0)) (.slice none 0 0)) ((HTX.out.belowB (scBelow w2 w1.heap.size 1 (.int .i64 (gv)) HLE.out) htw).belowB (put4_below (Nat.le_refl w.heap.size) (.int .i64 6) (.int .i64 (gv)) (.int .i64 (0)) (.slice none 0 0)) htw))
     unfold put4 at FIN
     exact bodyPost_ret (v := .agg #[.int .i64 6, .int .i64 (gv), .int .i64 (0), .slice none 0 0]) (by simp [results, Tryz.results130, go_sem, z0, z1, z2, z3]) rfl FIN.out
    ·go_enter Tryz.func130, Tryz.ntmps130
     go_wp2_with (first | (go_at_call 56; (with_reducible refine Calls.mono (ON.out _ HT0.out) ?_); rintro e wa ⟨rfl, hta, hba⟩; have HTa := Lib.hid hta; have HBa := Lib.hid (HB0.out.trans hba); have TBa := Lib.hid (TB0.out.but hba (Nat.ne_of_gt htw)); clear hta hba) | (go_at_call 57; (with_reducible refine Calls.mono (RG.out _ HTa.out) ?_); rintro e w1 ⟨rfl, ht1, hb1⟩; have HB1 := Lib.hid (HBa.out.trans hb1); have TB1 := Lib.hid (TBa.out.but hb1 (Nat.ne_of_gt htw)); have A1 := Lib.hid ((Below.refl w1.heap.size w1).alloc (Nat.le_refl _) (.cells #[.int .i64 7, .int .i64 0, .int .i64 0, .slice none 0 0] 96)); have HT1 := Lib.hid (ht1.below A1.out); have HS1 := Lib.hid (Nat.lt_of_lt_of_le TBa.out.lt hb1.size); clear ht1 hb1) | fail)
     obtain ⟨ga, ega⟩ : ∃ x, 1 + gives l q1 (2 - 1 + 1) = x := ⟨_, rfl⟩
     obtain ⟨q2, eq2⟩ : ∃ x, taken l q1 = x := ⟨_, rfl⟩
     have R2 := Lib.hid (fun (W : World) (hW : TapeAt W t l q1) => eq2 ▸ ega ▸ range_any t l q1 1 2 W hW (by omega) (by omega) (by omega))
     have hgv := gives_bd l q2 (n := 5) (by decide)
     obtain ⟨gv, egv⟩ : ∃ x, gives l q2 5 = x := ⟨_, rfl⟩
     rw [egv] at hgv
     obtain ⟨hg0, hg1⟩ := hgv
     have R3 := Lib.hid (fun (W : World) (hW : TapeAt W t l q2) => egv ▸ next_any t l q2 5 W hW (by omega))
     clear ega eq2 egv
     have hbz : w1.heap.size ≠ w.heap.size := by have := HS1.out; omega
     have hzb : w.heap.size ≠ w1.heap.size := Ne.symm hbz
     have HLE := Lib.hid (Nat.le_of_lt HS1.out)
     have htw1 : w1.heap.size ≠ t := by have := HS1.out; omega
     have HT1d := Lib.hid (HT1.out.below (Below.refl _ _).drew)
     obtain ⟨WX, eWX⟩ : ∃ W : World, (w1.alloc (.cells #[.int .i64 7, .int .i64 0, .int .i64 0, .slice none 0 0] 96)).drew = W := ⟨_, rfl⟩
     have TX := Lib.hid (show TB w1.heap.size WX (.int .i64 7) (.int .i64 0) (.int .i64 0) (.slice none 0 0) from eWX ▸ (TB.new w1 (.int .i64 7) (.int .i64 0) (.int .i64 0) (.slice none 0 0) 96).below (Below.refl _ _).drew)
     have TZ := Lib.hid (show TB w.heap.size WX (.int .i64 0) (.int .i64 0) (.int .i64 0) (.slice none 0 0) from eWX ▸ (TB1.out.below A1.out).below (Below.refl _ _).drew)
     have BX := Lib.hid (show But t w WX from eWX ▸ (HB1.out.nxt A1.out).drew)
     rw [eWX] at HT1d
     go_region_with (first | (go_at_call 57; refine Calls.mono (R2.out _ HT1d.out) ?_; rintro e w2 ⟨rfl, ht2, hb2⟩; have TX2 := Lib.hid (TX.out.but hb2 htw1); have TZ2 := Lib.hid (TZ.out.but hb2 (Nat.ne_of_gt htw)); have BX2 := Lib.hid (BX.out.trans hb2); have HT2 := Lib.hid ht2; clear ht2 hb2) | (go_at_call 37; refine Calls.mono (R3.out _ HT2.out) ?_; rintro e w3 ⟨rfl, ht3, hb3⟩; have BX3 := Lib.hid (BX2.out.trans hb3); obtain ⟨x0, x1, x2, x3, y0, y1, y2, y3, -⟩ := TX2.out.but hb3 htw1; obtain ⟨z0, z1, z2, z3, u0, u1, u2, u3, -⟩ := TZ2.out.but hb3 (Nat.ne_of_gt htw); have HT3 := Lib.hid ht3; clear ht3 hb3))
     go_wp2
     have HQ := Lib.hid ((BX3.out.stpB (scBelow w3 w1.heap.size 1 (.int .i64 ga) HLE.out) (Nat.le_refl _)).stpB (scBelow (w3.setCell ⟨w1.heap.size, 1, none⟩ (.int .i64 ga)) w1.heap.size 2 (.int .i64 (wrap64 (2 ^ gv.toNat))) HLE.out) (Nat.le_refl _))
     have HQT := Lib.hid ((HT3.out.belowB (scBelow w3 w1.heap.size 1 (.int .i64 ga) HLE.out) htw).belowB (scBelow (w3.setCell ⟨w1.heap.size, 1, none⟩ (.int .i64 ga)) w1.heap.size 2 (.int .i64 (wrap64 (2 ^ gv.toNat))) HLE.out) htw)
     have FIN := Lib.hid (term_leaf (D := D + 1) (w := w) 7 (ga) (wrap64 (2 ^ gv.toNat)) (put4_but (HQ.out) (.int .i64 7) (.int .i64 (ga)) (.int .i64 (wrap64 (2 ^ gv.toNat))) (.slice none 0 0)) ((HQT.out).belowB (put4_below (Nat.le_refl w.heap.size) (.int .i64 7) (.int .i64 (ga)) (.int .i64 (wrap64 (2 ^ gv.toNat))) (.slice none 0 0)) htw))
     unfold put4 at FIN
     exact bodyPost_ret (v := .agg #[.int .i64 7, .int .i64 (ga), .int .i64 (wrap64 (2 ^ gv.toNat)), .slice none 0 0]) (by simp [results, Tryz.results130, go_sem, z0, z1, z2, z3]) rfl FIN.out
    ·go_enter Tryz.func130, Tryz.ntmps130
     go_wp2_with (first | (go_at_call 56; (with_reducible refine Calls.mono (ON.out _ HT0.out) ?_); rintro e wa ⟨rfl, hta, hba⟩; have HTa := Lib.hid hta; have HBa := Lib.hid (HB0.out.trans hba); have TBa := Lib.hid (TB0.out.but hba (Nat.ne_of_gt htw)); clear hta hba) | (go_at_call 57; (with_reducible refine Calls.mono (RG.out _ HTa.out) ?_); rintro e w1 ⟨rfl, ht1, hb1⟩; have HB1 := Lib.hid (HBa.out.trans hb1); have TB1 := Lib.hid (TBa.out.but hb1 (Nat.ne_of_gt htw)); have A1 := Lib.hid ((Below.refl w1.heap.size w1).alloc (Nat.le_refl _) (.cells #[.int .i64 8, .int .i64 0, .int .i64 0, .slice none 0 0] 96)); have HT1 := Lib.hid (ht1.below A1.out); have HS1 := Lib.hid (Nat.lt_of_lt_of_le TBa.out.lt hb1.size); clear ht1 hb1) | fail)
     (with_reducible refine Calls.mono (range_any t l q1 1 3 _ HT1.out (by decide) (by decide) (by decide)) ?_)
     rintro e w2 ⟨rfl, ht2, hb2⟩
     obtain ⟨gv, egv⟩ : ∃ x, 1 + gives l q1 (3 - 1 + 1) = x := ⟨_, rfl⟩
     rw [egv]
     clear egv
     have HBX := Lib.hid ((HB1.out.nxt A1.out).trans hb2)
     have HTX := Lib.hid ht2
     obtain ⟨x0, x1, x2, x3, y0, y1, y2, y3, -⟩ := (TB.new w1 (.int .i64 8) (.int .i64 0) (.int .i64 0) (.slice none 0 0) 96).but hb2 (by have := HS1.out; omega)
     obtain ⟨z0, z1, z2, z3, u0, u1, u2, u3, -⟩ := (TB1.out.below A1.out).but hb2 (Nat.ne_of_gt htw)
     have hbz : w1.heap.size ≠ w.heap.size := by have := HS1.out; omega
     have hzb : w.heap.size ≠ w1.heap.size := Ne.symm hbz
     have HLE := Lib.hid (Nat.le_of_lt HS1.out)
     clear ht2 hb2
     go_wp2
     have FIN := Lib.hid (term_leaf (D := D + 1) (w := w) 8 (gv) 0 (put4_but (HBX.out.stpB (scBelow w2 w1.heap.size 1 (.int .i64 (gv)) HLE.out) (Nat.le_refl _)) (.int .i64 8) (.int .i64 (gv)) (.int .i64 (0)) (.slice none 0 0)) ((HTX.out.belowB (scBelow w2 w1.heap.size 1 (.int .i64 (gv)) HLE.out) htw).belowB (put4_below (Nat.le_refl w.heap.size) (.int .i64 8) (.int .i64 (gv)) (.int .i64 (0)) (.slice none 0 0)) htw))
     unfold put4 at FIN
     exact bodyPost_ret (v := .agg #[.int .i64 8, .int .i64 (gv), .int .i64 (0), .slice none 0 0]) (by simp [results, Tryz.results130, go_sem, z0, z1, z2, z3]) rfl FIN.out
      
   ·obtain ⟨g, eg⟩ : ∃ g, gives l qa 3 = g := ⟨_, rfl⟩
    have hg := gives_bd l qa (n := 3) (by omega)
    rw [eg] at hg
    obtain ⟨qb, eqb⟩ : ∃ q, taken l qa = q := ⟨_, rfl⟩
    have NX := Lib.hid (show ∀ W, TapeAt W t l qa → Calls Tryz.prog 37 #[.pointer (some ⟨t, 0, none⟩), .int .i64 3] W (fun e w' => e = .returned (.int .i64 g) ∧ TapeAt w' t l qb ∧ But t W w') from fun W hW => by
     have := next_any t l qa 3 W hW (by omega)
     rw [eg, eqb] at this
     exact this)
    have hgc : g = 0 ∨ g = 1 ∨ g = 2 := by omega
    clear eg eqb hg
    rcases hgc with rfl | rfl | rfl
    ·go_enter Tryz.func130, Tryz.ntmps130
     go_wp2_with (first | (go_at_call 56; (with_reducible refine Calls.mono (ON.out _ HT0.out) ?_); rintro e wa ⟨rfl, hta, hba⟩; have HTa := Lib.hid hta; have HBa := Lib.hid (HB0.out.trans hba); have TBa := Lib.hid (TB0.out.but hba (Nat.ne_of_gt htw)); clear hta hba) | (go_at_call 37; (with_reducible refine Calls.mono (NX.out _ HTa.out) ?_); rintro e wb ⟨rfl, htb, hbb⟩; have HTb := Lib.hid htb; have HBb := Lib.hid (HBa.out.trans hbb); have TBb := Lib.hid (TBa.out.but hbb (Nat.ne_of_gt htw)); clear htb hbb) | fail)
     (with_reducible refine Calls.mono (IH.out _ _ HTb.out) ?_)
     rintro e wc ⟨r1, k1, d1, q1, rfl, hv1, hc1, ht1, hb1⟩
     have HTc := Lib.hid ht1
     have HBc := Lib.hid (HBb.out.trans hb1)
     have TBc := Lib.hid (TBb.out.but hb1 (Nat.ne_of_gt htw))
     have V1 := Lib.hid (show TV (NewQ (w.heap.size + 1)) wc d1 r1 k1 from hv1.change (Nat.le_refl _) fun b hq _ => ⟨rfl, by have := TBb.out.lt; unfold NewQ at *; omega⟩)
     clear hv1 ht1 hb1
     obtain ⟨z0, z1, z2, z3, u0, u1, u2, u3, hlt⟩ := TBc.out
     have hct : countL [k1] + 1 < 2 ^ (D + 1 + 1) := by
      have e1 : countL [k1] = count k1 := by rw [countL, countL, Nat.add_zero]
      have e2 : 2 ^ (D + 1 + 1) = 2 * 2 ^ (D + 1) := by rw [Nat.pow_succ, Nat.mul_comm]
      rw [e1, e2]; omega
     have FIN := Lib.hid (term_kids (D := D + 1) HBc.out HTc.out htw 11 [r1] [k1] d1 1 rfl rfl (by omega) (fun k a b => by
      match k, a with
      | 0, _ => exact V1.out) hlt hct 96)
     unfold put4 at FIN
     have TF := (TBc.out.res (.int .i64 11) (.int .i64 0) (.int .i64 0) (.slice (some ⟨wc.heap.size, 0, none⟩) 1 1)).below (balloc (Nat.le_refl _) (Below.refl _ _) (.cells #[.int .i64 r1.op, .int .i64 r1.num, .int .i64 r1.more, .slice r1.p r1.n r1.c] 96))
     unfold put4 at TF
     have TF := Lib.hid TF
     go_wp2
     obtain ⟨k0, k1, k2, k3, -, -, -, -, -⟩ := TF.out
     exact bodyPost_ret (v := .agg #[.int .i64 11, .int .i64 0, .int .i64 0, .slice (some ⟨wc.heap.size, 0, none⟩) 1 1]) (by simp [results, Tryz.results130, go_sem, k0, k1, k2, k3]) rfl FIN.out
    ·go_enter Tryz.func130, Tryz.ntmps130
     go_wp2_with (first | (go_at_call 56; (with_reducible refine Calls.mono (ON.out _ HT0.out) ?_); rintro e wa ⟨rfl, hta, hba⟩; have HTa := Lib.hid hta; have HBa := Lib.hid (HB0.out.trans hba); have TBa := Lib.hid (TB0.out.but hba (Nat.ne_of_gt htw)); clear hta hba) | (go_at_call 37; (with_reducible refine Calls.mono (NX.out _ HTa.out) ?_); rintro e wb ⟨rfl, htb, hbb⟩; have HTb := Lib.hid htb; have HBb := Lib.hid (HBa.out.trans hbb); have TBb := Lib.hid (TBa.out.but hbb (Nat.ne_of_gt htw)); clear htb hbb) | fail)
     (with_reducible refine Calls.mono (IH.out _ _ HTb.out) ?_)
     rintro e wc ⟨r1, k1, d1, q1, rfl, hv1, hc1, ht1, hb1⟩
     have HTc := Lib.hid ht1
     have HBc := Lib.hid (HBb.out.trans hb1)
     have TBc := Lib.hid (TBb.out.but hb1 (Nat.ne_of_gt htw))
     have V1 := Lib.hid (show TV (NewQ (w.heap.size + 1)) wc d1 r1 k1 from hv1.change (Nat.le_refl _) fun b hq _ => ⟨rfl, by have := TBb.out.lt; unfold NewQ at *; omega⟩)
     clear hv1 ht1 hb1
     go_wp2_with fail
     (with_reducible refine Calls.mono (IH.out _ _ HTc.out) ?_)
     rintro e wd ⟨r2, k2, d2, q2, rfl, hv2, hc2, ht2, hb2⟩
     have HBd := Lib.hid (HBc.out.trans hb2)
     obtain ⟨z0, z1, z2, z3, u0, u1, u2, u3, hlt⟩ := TBc.out.but hb2 (Nat.ne_of_gt htw)
     have hct : countL [k1, k2] + 1 < 2 ^ (D + 1 + 1) := by
      have e1 : countL [k1, k2] = count k1 + count k2 := by rw [countL, countL, countL, Nat.add_zero]
      have e2 : 2 ^ (D + 1 + 1) = 2 * 2 ^ (D + 1) := by rw [Nat.pow_succ, Nat.mul_comm]
      rw [e1, e2]; omega
     have FIN := Lib.hid (term_kids (D := D + 1) HBd.out ht2 htw 9 [r1, r2] [k1, k2] (max d1 d2) 2 rfl rfl (by omega) (fun k a b => by
      match k, a with
      | 0, _ => exact (V1.out.change hb2.size fun b hq hl => ⟨hb2.block b hl (by unfold NewQ at hq; omega), hq⟩).deep (Nat.le_max_left _ _)
      | 1, _ => exact (hv2.change (Nat.le_refl _) fun b hq _ => ⟨rfl, by have := TBc.out.lt; unfold NewQ at *; omega⟩).deep (Nat.le_max_right _ _)) hlt hct 96)
     unfold put4 at FIN
     clear hv2 ht2
     have TF := ((TBc.out.but hb2 (Nat.ne_of_gt htw)).res (.int .i64 9) (.int .i64 0) (.int .i64 0) (.slice (some ⟨wd.heap.size, 0, none⟩) 2 2)).below (balloc (Nat.le_refl _) (Below.refl _ _) (.cells #[.int .i64 r1.op, .int .i64 r1.num, .int .i64 r1.more, .slice r1.p r1.n r1.c, .int .i64 r2.op, .int .i64 r2.num, .int .i64 r2.more, .slice r2.p r2.n r2.c] 96))
     unfold put4 at TF
     have TF := Lib.hid TF
     clear hb2
     go_wp2
     obtain ⟨k0, k1, k2, k3, -, -, -, -, -⟩ := TF.out
     exact bodyPost_ret (v := .agg #[.int .i64 9, .int .i64 0, .int .i64 0, .slice (some ⟨wd.heap.size, 0, none⟩) 2 2]) (by simp [results, Tryz.results130, go_sem, k0, k1, k2, k3]) rfl FIN.out
    ·go_enter Tryz.func130, Tryz.ntmps130
     go_wp2_with (first | (go_at_call 56; (with_reducible refine Calls.mono (ON.out _ HT0.out) ?_); rintro e wa ⟨rfl, hta, hba⟩; have HTa := Lib.hid hta; have HBa := Lib.hid (HB0.out.trans hba); have TBa := Lib.hid (TB0.out.but hba (Nat.ne_of_gt htw)); clear hta hba) | (go_at_call 37; (with_reducible refine Calls.mono (NX.out _ HTa.out) ?_); rintro e wb ⟨rfl, htb, hbb⟩; have HTb := Lib.hid htb; have HBb := Lib.hid (HBa.out.trans hbb); have TBb := Lib.hid (TBa.out.but hbb (Nat.ne_of_gt htw)); clear htb hbb) | fail)
     (with_reducible refine Calls.mono (IH.out _ _ HTb.out) ?_)
     rintro e wc ⟨r1, k1, d1, q1, rfl, hv1, hc1, ht1, hb1⟩
     have HTc := Lib.hid ht1
     have HBc := Lib.hid (HBb.out.trans hb1)
     have TBc := Lib.hid (TBb.out.but hb1 (Nat.ne_of_gt htw))
     have V1 := Lib.hid (show TV (NewQ (w.heap.size + 1)) wc d1 r1 k1 from hv1.change (Nat.le_refl _) fun b hq _ => ⟨rfl, by have := TBb.out.lt; unfold NewQ at *; omega⟩)
     clear hv1 ht1 hb1
     go_wp2_with fail
     (with_reducible refine Calls.mono (IH.out _ _ HTc.out) ?_)
     rintro e wd ⟨r2, k2, d2, q2, rfl, hv2, hc2, ht2, hb2⟩
     have HBd := Lib.hid (HBc.out.trans hb2)
     obtain ⟨z0, z1, z2, z3, u0, u1, u2, u3, hlt⟩ := TBc.out.but hb2 (Nat.ne_of_gt htw)
     have hct : countL [k1, k2] + 1 < 2 ^ (D + 1 + 1) := by
      have e1 : countL [k1, k2] = count k1 + count k2 := by rw [countL, countL, countL, Nat.add_zero]
      have e2 : 2 ^ (D + 1 + 1) = 2 * 2 ^ (D + 1) := by rw [Nat.pow_succ, Nat.mul_comm]
      rw [e1, e2]; omega
     have FIN := Lib.hid (term_kids (D := D + 1) HBd.out ht2 htw 10 [r1, r2] [k1, k2] (max d1 d2) 2 rfl rfl (by omega) (fun k a b => by
      match k, a with
      | 0, _ => exact (V1.out.change hb2.size fun b hq hl => ⟨hb2.block b hl (by unfold NewQ at hq; omega), hq⟩).deep (Nat.le_max_left _ _)
      | 1, _ => exact (hv2.change (Nat.le_refl _) fun b hq _ => ⟨rfl, by have := TBc.out.lt; unfold NewQ at *; omega⟩).deep (Nat.le_max_right _ _)) hlt hct 96)
     unfold put4 at FIN
     clear hv2 ht2
     have TF := ((TBc.out.but hb2 (Nat.ne_of_gt htw)).res (.int .i64 10) (.int .i64 0) (.int .i64 0) (.slice (some ⟨wd.heap.size, 0, none⟩) 2 2)).below (balloc (Nat.le_refl _) (Below.refl _ _) (.cells #[.int .i64 r1.op, .int .i64 r1.num, .int .i64 r1.more, .slice r1.p r1.n r1.c, .int .i64 r2.op, .int .i64 r2.num, .int .i64 r2.more, .slice r2.p r2.n r2.c] 96))
     unfold put4 at TF
     have TF := Lib.hid TF
     clear hb2
     go_wp2
     obtain ⟨k0, k1, k2, k3, -, -, -, -, -⟩ := TF.out
     exact bodyPost_ret (v := .agg #[.int .i64 10, .int .i64 0, .int .i64 0, .slice (some ⟨wd.heap.size, 0, none⟩) 2 2]) (by simp [results, Tryz.results130, go_sem, k0, k1, k2, k3]) rfl FIN.out
      
end Go.Proofs.YtmlfcpglhipjgaaGreat
