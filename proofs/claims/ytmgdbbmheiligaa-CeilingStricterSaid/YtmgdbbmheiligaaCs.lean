/-
  THE WALK over the law CeilingAlone.
-/
import Derived.Test.YtmgdbbmheiligaaCg
namespace Go.Proofs.Ytmgdbbmheiligaa
open Go.RowKit

theorem Reduced_fine {D : List (Int × Int)} {a : Int} (hR : Ce.Right D) (a0 : 0 ≤ a) (a1 : a ≤ 68719476736) (p : Option Addr) (cap : Nat) (w : World) (h : Pairs w p D) :
    Calls Try.prog 38 #[.slice p D.length cap, .int .i64 a] w fun e w' => e = .returned (.tuple #[.int .i64 (Ce.red D a), .int .i64 0]) ∧ Below w.heap.size w w' := by
  have he : Ce.redErr D a = 0 := by unfold Ce.redErr; rw [if_neg (by rw [Ce.chk_zero.2 hR]; simp), if_neg (by rw [En.money_iff.2 ⟨a0, a1⟩]; simp)]
  have hv : Ce.redVal D a = Ce.red D a := by unfold Ce.redVal; rw [if_neg (by rw [he]; simp)]
  have := Reduced_any p D cap a w h
  rw [he, hv] at this
  exact this

theorem farm_fine {D : List (Int × Int)} {m : Int} {xs : List Int} (hF : Ce.Fine D m xs) (p : Option Addr) (cap : Nat) (q : Option Addr) (capx : Nat) (w : World) (hP : Pairs w p D) (hI : Ints w q xs) :
    Calls Try.prog 40 #[.slice p D.length cap, .int .i64 m, .slice q xs.length capx] w (GivesInts w (Ce.farm D m xs) 0) := by
  have := farm_any p D cap m q xs capx w hP hI
  rw [hF.err] at this
  exact this

set_option maxRecDepth 100000 in
set_option maxHeartbeats 4000000 in
theorem ceilingAlone_walk (a : Option Addr) (len cap : Nat) (z : List Int) (v : Int) (w : World) (w0 : IsRow .i64 w a len cap z) (w1 : (Lit.int .u16 v).wf = true) :
    Calls Try.prog 8 #[.slice a len cap, .int .u16 v] w fun e w' => e = .returned (.bool true) ∧ Below w.heap.size w w' := by
  obtain ⟨v0, v1⟩ := bd_u16 w1
  have HN := Lib.hid (new_any a len cap z w w0)
  clear w0 w1
  generalize (z.take len).take 400 = l at *
  have HD := Lib.hid (fun (W : World) (h : TapeAt W w.heap.size l 0) => degrees_any w.heap.size l 0 W h)
  have HX := Lib.hid (fun (W : World) (q : Nat) (h : TapeAt W w.heap.size l q) => next_any w.heap.size l q 9000 W h (by omega))
  have HG := Lib.hid (fun (q : Nat) => gives_bd l q (n := 9000) (by omega))
  go_enter Try.func8, Try.ntmps8
  go_wp2_with (first | (go_at_call 16; refine (HN.out).mono ?_; rintro e w1 ⟨rfl, ht, hb1⟩) | (go_at_call 34; refine (HD.out _ ht).mono ?_; rintro e w2 ⟨p, cp, D, q0, rfl, hO, hRt, hl3, ht2, hb2⟩) | (go_at_call 17; refine (HX.out _ _ ht2).mono ?_; rintro e w3 ⟨rfl, ht3, hb3⟩) | fail)
  obtain ⟨c0, c1⟩ := HG.out q0
  have hP3 := (hO.but hb3).pairs_at
  have BEL := Lib.hid (((hb1.trans hb2).trans (hb3.below (Nat.le_refl _) (Nat.le_trans hb1.size hb2.size))))
  generalize gives l q0 9000 = c at *
  have hF1 : Ce.Fine D c [v] := ⟨hRt, c0, by omega, by simp, fun x hx => by simp only [List.mem_cons, List.not_mem_nil, or_false] at hx; omega, by simp only [Sh.sum]; omega⟩
  have hF3 : Ce.Fine D c [0, v, 0] := ⟨hRt, c0, by omega, by simp, fun x hx => by simp only [List.mem_cons, List.not_mem_nil, or_false] at hx; omega, by simp only [Sh.sum]; omega⟩
  have R1 := Lib.hid (Reduced_fine hRt v0 (by omega) p cp w3 hP3)
  have i1 : ∀ (W : World), Ints (W.alloc (.cells #[.int .i64 v] 3)) (some ⟨W.heap.size, 0, none⟩) [v] := fun W => Ints.lit W _ [v] (by unfold maxLen; simp)
  have i3 : ∀ (W : World), Ints (W.alloc (.cells #[.int .i64 0, .int .i64 v, .int .i64 0] 3)) (some ⟨W.heap.size, 0, none⟩) [0, v, 0] := fun W => Ints.lit W _ [0, v, 0] (by unfold maxLen; simp)
  have f1 := fun (W : World) (hP : Pairs W p D) => farm_fine hF1 p cp (some ⟨W.heap.size, 0, none⟩) 1 _ (hP.below ((Below.refl _ _).alloc (Nat.le_refl _) _)) (i1 W)
  rw [hF1.alone, Int.min_comm] at f1
  have f3 := fun (W : World) (hP : Pairs W p D) => farm_fine hF3 p cp (some ⟨W.heap.size, 0, none⟩) 3 _ (hP.below ((Below.refl _ _).alloc (Nat.le_refl _) _)) (i3 W)
  rw [hF3.three, Int.min_comm] at f3
  have F1 := Lib.hid f1
  have F3 := Lib.hid f3
  have j1 := fun (W : World) q k (hl : Ints W q [min (Ce.red D v) c]) => refints24_any q (some ⟨W.heap.size, 0, none⟩) [min (Ce.red D v) c] [min (Ce.red D v) c] k 1 (W.alloc (.cells #[.int .i64 (min (Ce.red D v) c)] 3)) (hl.below ((Below.refl _ _).alloc (Nat.le_refl _) _)) (Ints.lit W _ [min (Ce.red D v) c] (by unfold maxLen; simp))
  rw [decide_eq_true rfl] at j1
  have j3 := fun (W : World) (b : Nat) (hb : b = W.heap.size) q k (hl : Ints W q [0, min (Ce.red D v) c, 0]) => refints24_any q (some ⟨b, 0, none⟩) [0, min (Ce.red D v) c, 0] [0, min (Ce.red D v) c, 0] k 3 (W.alloc (.cells #[.int .i64 0, .int .i64 (min (Ce.red D v) c), .int .i64 0] 3)) (hl.below ((Below.refl _ _).alloc (Nat.le_refl _) _)) (hb ▸ Ints.lit W _ [0, min (Ce.red D v) c, 0] (by unfold maxLen; simp))
  rw [decide_eq_true rfl] at j3
  have J1 := Lib.hid j1
  have J3 := Lib.hid j3
  have P3 := Lib.hid hP3
  have hl31 : D.length ≤ 9223372036854775807 := by omega
  clear f1 f3 j1 j3 hP3 hF1 hF3 hO ht ht2 ht3 hb1 hb2 hb3 hRt i1 i3 HN HD HX HG
  go_wp2_with (first | (go_at_call 38; refine R1.out.mono ?_; rintro e w4 ⟨rfl, hb4⟩; have hP4 := P3.out.below hb4) | (go_at_call 40; first | ((with_reducible refine Calls.mono (F1.out _ hP4) ?_); rintro e w5 ⟨p5, c5, rfl, hI5, hb5⟩; have hP5 := (hP4.below ((Below.refl _ _).alloc (Nat.le_refl _) (.cells #[.int .i64 v] 3))).below hb5) | ((with_reducible refine Calls.mono (F3.out _ hP5) ?_); rintro e w6 ⟨p6, c6, rfl, hI6, hb6⟩; have hI56 := (hI5.below ((Below.refl _ _).alloc (Nat.le_refl _) (.cells #[.int .i64 0, .int .i64 v, .int .i64 0] 3))).below hb6)) | (go_at_call 42; first | ((with_reducible refine Calls.mono (J1.out _ _ _ hI56) ?_); rintro e w7 ⟨rfl, n7, rfl⟩; have hI67 := (hI6.below ((Below.refl _ _).alloc (Nat.le_refl _) (.cells #[.int .i64 (min (Ce.red D v) c)] 3))).below (drewN_below _ n7)) | (refine Calls.mono (J3.out ((w6.alloc (.cells #[.int .i64 (min (Ce.red D v) c)] 3)).drewN n7) (w6.heap.size + 1) (show w6.heap.size + 1 = (w6.alloc (.cells #[.int .i64 (min (Ce.red D v) c)] 3)).heap.size by simp) _ _ hI67) ?_; rintro e w8 ⟨rfl, n8, rfl⟩)) | (go_at_call 33; refine (awake32_any _).mono ?_; rintro e w9 ⟨rfl, hb9⟩))
  go_ret
  have le := Nat.le_refl w.heap.size
  exact ⟨rfl, bstep le (bstep le (balloc le (bstep le (balloc le (bstep le (balloc le (bstep le (balloc le (bstep le BEL.out hb4) _) hb5) _) hb6) (.cells #[.int .i64 (min (Ce.red D v) c)] 3)) (drewN_below _ n7)) (.cells #[.int .i64 0, .int .i64 (min (Ce.red D v) c), .int .i64 0] 3)) (drewN_below _ n8)) hb9⟩

end Go.Proofs.Ytmgdbbmheiligaa
