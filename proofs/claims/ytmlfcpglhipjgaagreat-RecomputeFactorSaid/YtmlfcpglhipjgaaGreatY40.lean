/-
  PACKED (pack8.py): what is needed of the texts Xw.
-/
import Derived.Test.YtmlfcpglhipjgaaGreatY0
import Derived.Test.YtmlfcpglhipjgaaGreatY1
import Derived.Test.YtmlfcpglhipjgaaGreatY2
import Derived.Test.YtmlfcpglhipjgaaGreatY4
import Derived.Test.YtmlfcpglhipjgaaGreatY6
import Derived.Test.YtmlfcpglhipjgaaGreatY9
import Derived.Test.YtmlfcpglhipjgaaGreatY13
import Derived.Test.YtmlfcpglhipjgaaGreatY17
import Derived.Test.YtmlfcpglhipjgaaGreatY20
import Derived.Test.YtmlfcpglhipjgaaGreatY26
import Derived.Test.YtmlfcpglhipjgaaGreatY29
import Derived.Test.YtmlfcpglhipjgaaGreatY31
import Derived.Test.YtmlfcpglhipjgaaGreatY33
import Derived.Test.YtmlfcpglhipjgaaGreatY34
import Derived.Test.YtmlfcpglhipjgaaGreatY35
import Derived.Test.YtmlfcpglhipjgaaGreatY37
import Derived.Test.YtmlfcpglhipjgaaGreatY38
import Derived.Test.YtmlfcpglhipjgaaGreatY39
set_option maxRecDepth 100000
set_option maxHeartbeats 8000000
namespace Go.Proofs.YtmlfcpglhipjgaaGreat.Sc
end Go.Proofs.YtmlfcpglhipjgaaGreat.Sc
namespace Go.Proofs.YtmlfcpglhipjgaaGreat.As
end Go.Proofs.YtmlfcpglhipjgaaGreat.As
namespace Go.Proofs.YtmlfcpglhipjgaaGreat
open Go.RowKit Sc As
def aw38Y : YLaw := ⟨[aw34S], [(30, 0)], ⟨5, 9, 0⟩, [], 5000, 5000, 1, 0⟩
def aw38F (d : Int) : FarmF := ⟨7, 0, [⟨50, 4, [d], 0, 0, 0, 0⟩]⟩
theorem aw38_chk : chkY aw38Y = 0 := by kernel_rfl
theorem aw38_errA : assErr aw38Y [aw38F 20] = 0 := by kernel_rfl
theorem aw38_errB : assErr aw38Y [aw38F 50] = 0 := by kernel_rfl
theorem aw38_facA : Re.fac aw38Y [aw38F 20] = (1, 1) := by kernel_rfl
theorem aw38_facB : Re.fac aw38Y [aw38F 50] = (1, 1) := by kernel_rfl
theorem aw38_dvdA : Re.dvd aw38Y [aw38F 20] = false := by kernel_rfl
theorem aw38_dvdB : Re.dvd aw38Y [aw38F 50] = false := by kernel_rfl
theorem aw38_amtA : amount (assess aw38Y [aw38F 20]) 7 = 40 := by kernel_rfl
theorem aw38_amtB : amount (assess aw38Y [aw38F 50]) 7 = 100 := by kernel_rfl
theorem aw38_ch : Re.farmCh (Re.findF [aw38F 20] 7) (Re.findF [aw38F 50] 7) = [⟨4, 0⟩] := by kernel_rfl
theorem aw38_chA : Re.farmCh (aw38F 20) (aw38F 20) = [] := by kernel_rfl
theorem aw38_farms : Re.farmsOf [aw38F 20] [aw38F 50] = [7] := by
 unfold Re.farmsOf; rw [List.mergeSort_of_pairwise (by show List.Pairwise _ [(7 : Int), 7]; simp)]
 kernel_rfl
theorem aw38_mov : ¬ Re.movedP aw38Y [aw38F 20] [aw38F 50] 7 := by
 unfold Re.movedP; rw [aw38_facA, aw38_facB, aw38_dvdA, aw38_dvdB]
 simp
theorem aw38_difs : Re.difs aw38Y [aw38F 20] [aw38F 50] = [(⟨7, 40, 100, [⟨4, 0⟩]⟩ : Re.Dif)] := by
 unfold Re.difs; rw [aw38_farms, List.flatMap_singleton]; unfold Re.difOf Re.dif Re.movedCh; rw [aw38_amtA, aw38_amtB, aw38_ch, if_neg aw38_mov]
 rfl
structure Aw38 (w W : World) (b1 b2 b3 b5 b6 b8 b9 : Nat) : Prop where
 yv : YV (fun _ => True) W 0 ⟨some ⟨b1, 0, none⟩, 1, 1, some ⟨b2, 0, none⟩, 1, 1, 5, 9, 0, none, 0, 0, 5000, 5000, 1, 0⟩ aw38Y
 fa : FsAt (fun _ => True) W (some ⟨b6, 0, none⟩) [aw38F 20]
 fb : FsAt (fun _ => True) W (some ⟨b9, 0, none⟩) [aw38F 50]
 va : FV (fun _ => True) W ⟨7, 0, some ⟨b5, 0, none⟩, 1, 1⟩ (aw38F 20)
 bl : Blk W b3 #[.slice (some ⟨b1, 0, none⟩) 1 1, .slice (some ⟨b2, 0, none⟩) 1 1, .int .i64 5, .int .i64 9, .int .i64 0, .slice none 0 0, .int .i64 5000, .int .i64 5000, .int .i64 1, .int .i64 0] 29
 ba : Blk W b6 #[.int .i64 7, .int .i64 0, .slice (some ⟨b5, 0, none⟩) 1 1] 47
 low : Below w.heap.size w W
theorem Aw38.below {w W W' : World} {b1 b2 b3 b5 b6 b8 b9 : Nat} (h : Aw38 w W b1 b2 b3 b5 b6 b8 b9) (hb : Below W.heap.size W W') : Aw38 w W' b1 b2 b3 b5 b6 b8 b9 :=
 ⟨h.yv.below hb, h.fa.below hb, h.fb.below hb, h.va.below hb, h.bl.below hb, h.ba.below hb, h.low.trans (hb.mono h.low.size)⟩
theorem one_maxLen {n : Nat} (h : n = 1) : n ≤ maxLen := by unfold maxLen; omega
theorem alloc_bel {W W' : World} {o : Obj} (h : W' = W.alloc o) : Below W.heap.size W W' := by rw [h]; exact (brf _ _).alloc mle _
theorem far38_mem {w0 w1 w2 w3 : World} {c4 c5 c6 c7 : Nat} {d : Int} (s0 : w0.heap.size = c4) (e5 : c4 + 1 = c5) (e6 : c5 + 1 = c6) (e7 : c6 + 1 = c7) (h1 : w1 = w0.alloc (.cells #[.int .i64 d] 3)) (h2 : w2 = w1.alloc (.cells #[.int .i64 50, .int .i64 4, .slice (some ⟨c4, 0, none⟩) 1 1, .int .i64 0, .int .i64 0, .int .i64 0, .int .i64 0] 68)) (h3 : w3 = w2.alloc (.cells #[.int .i64 7, .int .i64 0, .slice (some ⟨c5, 0, none⟩) 1 1] 47)) :
  FV (fun _ => True) w3 ⟨7, 0, some ⟨c5, 0, none⟩, 1, 1⟩ (aw38F d) ∧ FsAt (fun _ => True) w3 (some ⟨c6, 0, none⟩) [aw38F d] ∧ Blk w3 c6 #[.int .i64 7, .int .i64 0, .slice (some ⟨c5, 0, none⟩) 1 1] 47 ∧ Below w0.heap.size w0 w3 ∧ w3.heap.size = c7 := by
 have s1 : w1.heap.size = c5 := by rw [h1, World.size_alloc]; omega
 have s2 : w2.heap.size = c6 := by rw [h2, World.size_alloc]; omega
 have s3 : w3.heap.size = c7 := by rw [h3, World.size_alloc]; omega
 have q1 := alloc_bel h1; have q2 := alloc_bel h2; have q3 := alloc_bel h3; have d13 := q2.trans (q3.mono q2.size); have R4 : Ints w1 (some ⟨c4, 0, none⟩) [d] := by rw [h1, ← s0]; exact Ints.lit w0 _ [d] (one_maxLen rfl)
 have R5 : Recs SL w2 (some ⟨c5, 0, none⟩) [⟨50, 4, some ⟨c4, 0, none⟩, 1, 1, 0, 0, 0, 0⟩] := by rw [h2, ← s1]; exact Recs.lit (S := SL) w1 _ [⟨50, 4, some ⟨c4, 0, none⟩, 1, 1, 0, 0, 0, 0⟩] (one_maxLen rfl)
 have R6 : Recs SF w3 (some ⟨c6, 0, none⟩) [⟨7, 0, some ⟨c5, 0, none⟩, 1, 1⟩] := by rw [h3, ← s2]; exact Recs.lit (S := SF) w2 _ [⟨7, 0, some ⟨c5, 0, none⟩, 1, 1⟩] (one_maxLen rfl)
 have V : FV (fun _ => True) w3 ⟨7, 0, some ⟨c5, 0, none⟩, 1, 1⟩ (aw38F d) := ⟨rfl, rfl, ⟨⟨_, rfl, R5.below q3, fun k a b => by
  obtain rfl : k = 0 := by simp at a; exact a
  exact ⟨rfl, rfl, R4.below d13, rfl, Nat.le_refl _, (fun e => by cases e), fun _ _ => .inr trivial, rfl, rfl, rfl, rfl⟩⟩, fun _ _ => .inr trivial⟩, rfl, Nat.le_refl _, fun e => by cases e⟩
 refine ⟨V, ⟨⟨_, rfl, R6, fun k a b => ?_⟩, fun _ _ => .inr trivial⟩, ?_, q1.trans (d13.mono q1.size), s3⟩
 ·obtain rfl : k = 0 := by simp at a; exact a
  exact V
 ·rw [h3, ← s2]; exact Blk.new _ _ _
theorem aw38_mem {w w1 w2 w3 w4 w5 w6 w7 w8 w9 w10 : World} {b0 b1 b2 b3 b4 b5 b6 b7 b8 b9 : Nat} (e0 : w.heap.size = b0) (e1 : b0 + 1 = b1) (e2 : b1 + 1 = b2) (e3 : b2 + 1 = b3) (e4 : b3 + 1 = b4) (e5 : b4 + 1 = b5) (e6 : b5 + 1 = b6) (e7 : b6 + 1 = b7) (e8 : b7 + 1 = b8) (e9 : b8 + 1 = b9)
  (h1 : w1 = w.alloc (.cells #[.int .i64 1000, .int .i64 200] 98)) (h2 : w2 = w1.alloc (.cells #[.int .i64 2, .string ⟨#[97]⟩, .int .i64 1, .int .i64 0, .int .i64 0, .slice none 0 0, .slice (some ⟨b0, 0, none⟩) 1 1, .int .i64 0, .int .i64 0, .bool false] 101)) (h3 : w3 = w2.alloc (.cells #[.int .i64 30, .int .i64 0] 103)) (h4 : w4 = w3.alloc (.cells #[.slice (some ⟨b1, 0, none⟩) 1 1, .slice (some ⟨b2, 0, none⟩) 1 1, .int .i64 5, .int .i64 9, .int .i64 0, .slice none 0 0, .int .i64 5000, .int .i64 5000, .int .i64 1, .int .i64 0] 29))
  (h5 : w5 = w4.alloc (.cells #[.int .i64 20] 3)) (h6 : w6 = w5.alloc (.cells #[.int .i64 50, .int .i64 4, .slice (some ⟨b4, 0, none⟩) 1 1, .int .i64 0, .int .i64 0, .int .i64 0, .int .i64 0] 68)) (h7 : w7 = w6.alloc (.cells #[.int .i64 7, .int .i64 0, .slice (some ⟨b5, 0, none⟩) 1 1] 47))
  (h8 : w8 = w7.alloc (.cells #[.int .i64 50] 3)) (h9 : w9 = w8.alloc (.cells #[.int .i64 50, .int .i64 4, .slice (some ⟨b7, 0, none⟩) 1 1, .int .i64 0, .int .i64 0, .int .i64 0, .int .i64 0] 68)) (h10 : w10 = w9.alloc (.cells #[.int .i64 7, .int .i64 0, .slice (some ⟨b8, 0, none⟩) 1 1] 47)) : Aw38 w w10 b1 b2 b3 b5 b6 b8 b9 := by
 have s1 : w1.heap.size = b1 := by rw [h1, World.size_alloc]; omega
 have s2 : w2.heap.size = b2 := by rw [h2, World.size_alloc]; omega
 have s3 : w3.heap.size = b3 := by rw [h3, World.size_alloc]; omega
 have s4 : w4.heap.size = b4 := by rw [h4, World.size_alloc]; omega
 have q1 := alloc_bel h1; have q2 := alloc_bel h2; have q3 := alloc_bel h3; have q4 := alloc_bel h4; obtain ⟨va, fa, ba, d47, s7⟩ := far38_mem s4 e5 e6 e7 h5 h6 h7; obtain ⟨vb, fb, bb, d710, s10⟩ := far38_mem s7 e8 e9 rfl h8 h9 h10; have d410 := d47.trans (d710.mono d47.size); have d310 := q4.trans (d410.mono q4.size); have d210 := q3.trans (d310.mono q3.size); have d110 := q2.trans (d210.mono q2.size); have R0 : Recs SBk w1 (some ⟨b0, 0, none⟩) [⟨1000, 200⟩] := by rw [h1, ← e0]; exact Recs.lit (S := SBk) w _ [⟨1000, 200⟩] (one_maxLen rfl)
 have R1 : Recs SSc w2 (some ⟨b1, 0, none⟩) [⟨2, ⟨#[97]⟩, ⟨1, 0, 0, none, 0, 0⟩, some ⟨b0, 0, none⟩, 1, 1, 0, 0, false⟩] := by rw [h2, ← s1]; exact Recs.lit (S := SSc) w1 _ [⟨2, ⟨#[97]⟩, ⟨1, 0, 0, none, 0, 0⟩, some ⟨b0, 0, none⟩, 1, 1, 0, 0, false⟩] (one_maxLen rfl)
 have R2 : Pairs w3 (some ⟨b2, 0, none⟩) [(30, 0)] := by rw [h3, ← s2]; exact Pairs.lit8 w2 _ [(30, 0)] (one_maxLen rfl)
 refine ⟨⟨⟨⟨_, rfl, R1.below d210, fun k a b => ?_⟩, fun _ _ => .inr trivial⟩, rfl, Nat.le_refl _, R2.below d310, rfl, fun _ _ => .inr trivial, rfl, rfl, rfl, Pairs.nil _ _, rfl, (fun _ e => by cases e), rfl, rfl, rfl, rfl, fun s hs => ?_, fun s hs => ?_⟩, fa.below d710, fb, va.below d710, ?_, ba.below d710, q1.trans (d110.mono q1.size)⟩
 ·obtain rfl : k = 0 := by simp at a; exact a
  exact ⟨rfl, rfl, ⟨⟨rfl, rfl, rfl, rfl, Nat.le_refl _, fun _ => rfl⟩, TmsAt.nil _ _ _ _⟩, R0.below d110, rfl, Nat.le_refl _, (fun e => by cases e), fun _ _ => .inr trivial, rfl, rfl, rfl⟩
 ·rw [List.mem_singleton.1 hs]; decide
 ·rw [List.mem_singleton.1 hs]; decide
 ·have : Blk w4 b3 #[.slice (some ⟨b1, 0, none⟩) 1 1, .slice (some ⟨b2, 0, none⟩) 1 1, .int .i64 5, .int .i64 9, .int .i64 0, .slice none 0 0, .int .i64 5000, .int .i64 5000, .int .i64 1, .int .i64 0] 29 := by rw [h4, ← s3]; exact Blk.new _ _ _
  exact this.below d410
theorem dif38_lit (W : World) (T1 T2 : TypeId) : Re.DsAt (fun _ => True) ((W.alloc (.cells #[.int .i64 4, .int .i64 0] T1)).alloc (.cells #[.int .i64 7, .int .i64 40, .int .i64 100, .slice (some ⟨W.heap.size, 0, none⟩) 1 1] T2)) (some ⟨W.heap.size + 1, 0, none⟩) [(⟨7, 40, 100, [⟨4, 0⟩]⟩ : Re.Dif)] := by
 have s1 : (W.alloc (.cells #[.int .i64 4, .int .i64 0] T1)).heap.size = W.heap.size + 1 := by rw [World.size_alloc]
 have R0 : Recs Re.SCh (W.alloc (.cells #[.int .i64 4, .int .i64 0] T1)) (some ⟨W.heap.size, 0, none⟩) [⟨4, 0⟩] := Recs.lit (S := Re.SCh) W _ [⟨4, 0⟩] (one_maxLen rfl); have R1 : Recs Re.SDf ((W.alloc (.cells #[.int .i64 4, .int .i64 0] T1)).alloc (.cells #[.int .i64 7, .int .i64 40, .int .i64 100, .slice (some ⟨W.heap.size, 0, none⟩) 1 1] T2)) (some ⟨W.heap.size + 1, 0, none⟩) [⟨7, 40, 100, some ⟨W.heap.size, 0, none⟩, 1, 1⟩] := by
  rw [← s1]; exact Recs.lit (S := Re.SDf) (W.alloc (.cells #[.int .i64 4, .int .i64 0] T1)) _ [⟨7, 40, 100, some ⟨W.heap.size, 0, none⟩, 1, 1⟩] (one_maxLen rfl)
 refine ⟨⟨_, rfl, R1, fun k a b => ?_⟩, fun _ _ => .inr trivial⟩
 obtain rfl : k = 0 := by simp at a; exact a
 exact ⟨rfl, rfl, rfl, R0.below ((brf _ _).alloc mle _), rfl, Nat.le_refl _, (fun e => by cases e), fun _ _ => .inr trivial⟩
theorem awake38_any (w : World) : Calls Tryz.prog 38 #[] w fun e w' => e = .returned (.bool true) ∧ Below w.heap.size w w' := by
 obtain ⟨b0, e0⟩ : ∃ b, w.heap.size = b := ⟨_, rfl⟩; obtain ⟨b1, e1⟩ : ∃ b, b0 + 1 = b := ⟨_, rfl⟩; obtain ⟨b2, e2⟩ : ∃ b, b1 + 1 = b := ⟨_, rfl⟩; obtain ⟨b3, e3⟩ : ∃ b, b2 + 1 = b := ⟨_, rfl⟩; obtain ⟨b4, e4⟩ : ∃ b, b3 + 1 = b := ⟨_, rfl⟩; obtain ⟨b5, e5⟩ : ∃ b, b4 + 1 = b := ⟨_, rfl⟩; obtain ⟨b6, e6⟩ : ∃ b, b5 + 1 = b := ⟨_, rfl⟩; obtain ⟨b7, e7⟩ : ∃ b, b6 + 1 = b := ⟨_, rfl⟩; obtain ⟨b8, e8⟩ : ∃ b, b7 + 1 = b := ⟨_, rfl⟩; obtain ⟨b9, e9⟩ : ∃ b, b8 + 1 = b := ⟨_, rfl⟩; have MM := mh (aw38_mem e0 e1 e2 e3 e4 e5 e6 e7 e8 e9 rfl rfl rfl rfl rfl rfl rfl rfl rfl rfl)
 go_enter Tryz.func38, Tryz.ntmps38
 go_upto_region 4 with fail
 clear e0 e1 e2 e3 e4 e5 e6 e7 e8 e9; generalize (((((((((w.alloc (.cells #[.int .i64 1000, .int .i64 200] 98)).alloc (.cells #[.int .i64 2, .string ⟨#[97]⟩, .int .i64 1, .int .i64 0, .int .i64 0, .slice none 0 0, .slice (some ⟨b0, 0, none⟩) 1 1, .int .i64 0, .int .i64 0, .bool false] 101)).alloc (.cells #[.int .i64 30, .int .i64 0] 103)).alloc (.cells #[.slice (some ⟨b1, 0, none⟩) 1 1, .slice (some ⟨b2, 0, none⟩) 1 1, .int .i64 5, .int .i64 9, .int .i64 0, .slice none 0 0, .int .i64 5000, .int .i64 5000, .int .i64 1, .int .i64 0] 29)).alloc (.cells #[.int .i64 20] 3)).alloc (.cells #[.int .i64 50, .int .i64 4, .slice (some ⟨b4, 0, none⟩) 1 1, .int .i64 0, .int .i64 0, .int .i64 0, .int .i64 0] 68)).alloc (.cells #[.int .i64 7, .int .i64 0, .slice (some ⟨b5, 0, none⟩) 1 1] 47)).alloc (.cells #[.int .i64 50] 3)).alloc (.cells #[.int .i64 50, .int .i64 4, .slice (some ⟨b7, 0, none⟩) 1 1, .int .i64 0, .int .i64 0, .int .i64 0, .int .i64 0] 68)).alloc (.cells #[.int .i64 7, .int .i64 0, .slice (some ⟨b8, 0, none⟩) 1 1] 47) = w10 at *; have DF := mh (fun (W : World) (h : Aw38 w W b1 b2 b3 b5 b6 b8 b9) => diffs38_any 0 _ aw38Y (some ⟨b6, 0, none⟩) [aw38F 20] 1 (some ⟨b9, 0, none⟩) [aw38F 50] 1 W h.yv h.fa h.fb (by decide) (by decide)); have FC := mh (fun (W : World) (h : Aw38 w W b1 b2 b3 b5 b6 b8 b9) => factor38_any 0 _ aw38Y (some ⟨b6, 0, none⟩) [aw38F 20] 1 W h.yv h.fa); have CK := mh (fun (W : World) (h : Aw38 w W b1 b2 b3 b5 b6 b8 b9) => check34_any 0 _ aw38Y W h.yv h.yv.sc); have CH := mh (fun (W : World) (h : Aw38 w W b1 b2 b3 b5 b6 b8 b9) => changes38_any ⟨7, 0, some ⟨b5, 0, none⟩, 1, 1⟩ ⟨7, 0, some ⟨b5, 0, none⟩, 1, 1⟩ (aw38F 20) (aw38F 20) W h.va h.va (by decide) (by decide)); unfold Re.DfG at DF; unfold Re.FcG at FC; simp only [yCells, fCells, aw38_errA, aw38_errB, aw38_difs, aw38_facA, aw38_chk, aw38_chA, ne_eq, not_true_eq_false, false_and, false_or, true_and, forall_const] at DF FC CK CH; have z0 := MM.out.bl.cell 0; have z1 := MM.out.bl.cell 1; have z2 := MM.out.bl.cell 2; have z3 := MM.out.bl.cell 3; have z4 := MM.out.bl.cell 4; have z5 := MM.out.bl.cell 5; have z6 := MM.out.bl.cell 6; have z7 := MM.out.bl.cell 7; have z8 := MM.out.bl.cell 8; have z9 := MM.out.bl.cell 9;
 go_wp2_with fail
 (with_reducible refine cmo (DF.out _ MM.out) ?_); rintro e w11 ⟨v, R, rfl, hR, hb11⟩; obtain ⟨pd, cd, rfl, -, -, hD⟩ := hR.difs (n := 1) rfl; have M11 := mh (MM.out.below hb11); have D11 := mh hD; have BA := mh (show Calls Tryz.prog 48 #[.slice pd 1 cd] w11 (Re.TwoG 0 60 w11) from balance38_any pd [(⟨7, 40, 100, [⟨4, 0⟩]⟩ : Re.Dif)] cd w11 hD ⟨by decide, fun d hd => by rw [List.mem_singleton.1 hd]; decide⟩); clear hR hD hb11 z0 z1 z2 z3 z4 z5 z6 z7 z8 z9
 go_wp2_with fail
 (with_reducible refine cmo BA.out ?_); rintro e w12 ⟨rfl, hb12⟩; have M12 := mh (M11.out.below hb12); have D12 := mh (D11.out.below hb12); clear hb12; have z0 := M12.out.bl.cell 0; have z1 := M12.out.bl.cell 1; have z2 := M12.out.bl.cell 2; have z3 := M12.out.bl.cell 3; have z4 := M12.out.bl.cell 4; have z5 := M12.out.bl.cell 5; have z6 := M12.out.bl.cell 6; have z7 := M12.out.bl.cell 7; have z8 := M12.out.bl.cell 8; have z9 := M12.out.bl.cell 9;
 go_wp2_with fail
 (with_reducible refine cmo (FC.out _ M12.out) ?_); rintro e w13 ⟨N, D, rfl, ⟨rfl, rfl⟩, hb13⟩; have M13 := mh (M12.out.below hb13); have D13 := mh (D12.out.below hb13); clear hb13 z0 z1 z2 z3 z4 z5 z6 z7 z8 z9; have M0 := mh (M13.out.below (brf _ _).drew); have D0 := mh (D13.out.below (brf _ _).drew); have KD := mh (show w13.drew.cell? ⟨b3, 0, none⟩ = some (.slice (some ⟨b1, 0, none⟩) 1 1) ∧ w13.drew.cell? ⟨b3, 1, none⟩ = some (.slice (some ⟨b2, 0, none⟩) 1 1) ∧ w13.drew.cell? ⟨b3, 2, none⟩ = some (.int .i64 5) ∧ w13.drew.cell? ⟨b3, 3, none⟩ = some (.int .i64 9) ∧ w13.drew.cell? ⟨b3, 4, none⟩ = some (.int .i64 0) ∧ w13.drew.cell? ⟨b3, 5, none⟩ = some (.slice none 0 0) ∧ w13.drew.cell? ⟨b3, 6, none⟩ = some (.int .i64 5000) ∧ w13.drew.cell? ⟨b3, 7, none⟩ = some (.int .i64 5000) ∧ w13.drew.cell? ⟨b3, 8, none⟩ = some (.int .i64 1) ∧ w13.drew.cell? ⟨b3, 9, none⟩ = some (.int .i64 0) ∧ w13.drew.cell? ⟨b6, 0, none⟩ = some (.int .i64 7) ∧ w13.drew.cell? ⟨b6, 1, none⟩ = some (.int .i64 0) ∧ w13.drew.cell? ⟨b6, 2, none⟩ = some (.slice (some ⟨b5, 0, none⟩) 1 1) from ⟨M0.out.bl.cell 0, M0.out.bl.cell 1, M0.out.bl.cell 2, M0.out.bl.cell 3, M0.out.bl.cell 4, M0.out.bl.cell 5, M0.out.bl.cell 6, M0.out.bl.cell 7, M0.out.bl.cell 8, M0.out.bl.cell 9, M0.out.ba.cell 0, M0.out.ba.cell 1, M0.out.ba.cell 2⟩); have BL1 := mh (((brf w13.heap.size w13).alloc mle (.cells #[.int .i64 4, .int .i64 0] 91)).drew); have BL2 := mh ((((brf w13.heap.size w13).alloc mle (.cells #[.int .i64 4, .int .i64 0] 91)).alloc (by rw [World.size_alloc]; exact Nat.le_succ _) (.cells #[.int .i64 7, .int .i64 40, .int .i64 100, .slice (some ⟨w13.heap.size, 0, none⟩) 1 1] 88)).drew); have LT := mh ((dif38_lit w13 91 88).below (brf _ _).drew); have M2 := mh (M13.out.below BL2.out); have D2 := mh (D13.out.below BL2.out); have K2 := mh (show ((w13.alloc (.cells #[.int .i64 4, .int .i64 0] 91)).alloc (.cells #[.int .i64 7, .int .i64 40, .int .i64 100, .slice (some ⟨w13.heap.size, 0, none⟩) 1 1] 88)).drew.cell? ⟨b3, 0, none⟩ = some (.slice (some ⟨b1, 0, none⟩) 1 1) ∧ ((w13.alloc (.cells #[.int .i64 4, .int .i64 0] 91)).alloc (.cells #[.int .i64 7, .int .i64 40, .int .i64 100, .slice (some ⟨w13.heap.size, 0, none⟩) 1 1] 88)).drew.cell? ⟨b3, 1, none⟩ = some (.slice (some ⟨b2, 0, none⟩) 1 1) ∧ ((w13.alloc (.cells #[.int .i64 4, .int .i64 0] 91)).alloc (.cells #[.int .i64 7, .int .i64 40, .int .i64 100, .slice (some ⟨w13.heap.size, 0, none⟩) 1 1] 88)).drew.cell? ⟨b3, 2, none⟩ = some (.int .i64 5) ∧ ((w13.alloc (.cells #[.int .i64 4, .int .i64 0] 91)).alloc (.cells #[.int .i64 7, .int .i64 40, .int .i64 100, .slice (some ⟨w13.heap.size, 0, none⟩) 1 1] 88)).drew.cell? ⟨b3, 3, none⟩ = some (.int .i64 9) ∧ ((w13.alloc (.cells #[.int .i64 4, .int .i64 0] 91)).alloc (.cells #[.int .i64 7, .int .i64 40, .int .i64 100, .slice (some ⟨w13.heap.size, 0, none⟩) 1 1] 88)).drew.cell? ⟨b3, 4, none⟩ = some (.int .i64 0) ∧ ((w13.alloc (.cells #[.int .i64 4, .int .i64 0] 91)).alloc (.cells #[.int .i64 7, .int .i64 40, .int .i64 100, .slice (some ⟨w13.heap.size, 0, none⟩) 1 1] 88)).drew.cell? ⟨b3, 5, none⟩ = some (.slice none 0 0) ∧ ((w13.alloc (.cells #[.int .i64 4, .int .i64 0] 91)).alloc (.cells #[.int .i64 7, .int .i64 40, .int .i64 100, .slice (some ⟨w13.heap.size, 0, none⟩) 1 1] 88)).drew.cell? ⟨b3, 6, none⟩ = some (.int .i64 5000) ∧ ((w13.alloc (.cells #[.int .i64 4, .int .i64 0] 91)).alloc (.cells #[.int .i64 7, .int .i64 40, .int .i64 100, .slice (some ⟨w13.heap.size, 0, none⟩) 1 1] 88)).drew.cell? ⟨b3, 7, none⟩ = some (.int .i64 5000) ∧ ((w13.alloc (.cells #[.int .i64 4, .int .i64 0] 91)).alloc (.cells #[.int .i64 7, .int .i64 40, .int .i64 100, .slice (some ⟨w13.heap.size, 0, none⟩) 1 1] 88)).drew.cell? ⟨b3, 8, none⟩ = some (.int .i64 1) ∧ ((w13.alloc (.cells #[.int .i64 4, .int .i64 0] 91)).alloc (.cells #[.int .i64 7, .int .i64 40, .int .i64 100, .slice (some ⟨w13.heap.size, 0, none⟩) 1 1] 88)).drew.cell? ⟨b3, 9, none⟩ = some (.int .i64 0) ∧ ((w13.alloc (.cells #[.int .i64 4, .int .i64 0] 91)).alloc (.cells #[.int .i64 7, .int .i64 40, .int .i64 100, .slice (some ⟨w13.heap.size, 0, none⟩) 1 1] 88)).drew.cell? ⟨b6, 0, none⟩ = some (.int .i64 7) ∧ ((w13.alloc (.cells #[.int .i64 4, .int .i64 0] 91)).alloc (.cells #[.int .i64 7, .int .i64 40, .int .i64 100, .slice (some ⟨w13.heap.size, 0, none⟩) 1 1] 88)).drew.cell? ⟨b6, 1, none⟩ = some (.int .i64 0) ∧ ((w13.alloc (.cells #[.int .i64 4, .int .i64 0] 91)).alloc (.cells #[.int .i64 7, .int .i64 40, .int .i64 100, .slice (some ⟨w13.heap.size, 0, none⟩) 1 1] 88)).drew.cell? ⟨b6, 2, none⟩ = some (.slice (some ⟨b5, 0, none⟩) 1 1) from ⟨M2.out.bl.cell 0, M2.out.bl.cell 1, M2.out.bl.cell 2, M2.out.bl.cell 3, M2.out.bl.cell 4, M2.out.bl.cell 5, M2.out.bl.cell 6, M2.out.bl.cell 7, M2.out.bl.cell 8, M2.out.bl.cell 9, M2.out.ba.cell 0, M2.out.ba.cell 1, M2.out.ba.cell 2⟩)
 have K1 := mh (show (w13.alloc (.cells #[.int .i64 4, .int .i64 0] 91)).drew.cell? ⟨b3, 0, none⟩ = some (.slice (some ⟨b1, 0, none⟩) 1 1) ∧ (w13.alloc (.cells #[.int .i64 4, .int .i64 0] 91)).drew.cell? ⟨b3, 1, none⟩ = some (.slice (some ⟨b2, 0, none⟩) 1 1) ∧ (w13.alloc (.cells #[.int .i64 4, .int .i64 0] 91)).drew.cell? ⟨b3, 2, none⟩ = some (.int .i64 5) ∧ (w13.alloc (.cells #[.int .i64 4, .int .i64 0] 91)).drew.cell? ⟨b3, 3, none⟩ = some (.int .i64 9) ∧ (w13.alloc (.cells #[.int .i64 4, .int .i64 0] 91)).drew.cell? ⟨b3, 4, none⟩ = some (.int .i64 0) ∧ (w13.alloc (.cells #[.int .i64 4, .int .i64 0] 91)).drew.cell? ⟨b3, 5, none⟩ = some (.slice none 0 0) ∧ (w13.alloc (.cells #[.int .i64 4, .int .i64 0] 91)).drew.cell? ⟨b3, 6, none⟩ = some (.int .i64 5000) ∧ (w13.alloc (.cells #[.int .i64 4, .int .i64 0] 91)).drew.cell? ⟨b3, 7, none⟩ = some (.int .i64 5000) ∧ (w13.alloc (.cells #[.int .i64 4, .int .i64 0] 91)).drew.cell? ⟨b3, 8, none⟩ = some (.int .i64 1) ∧ (w13.alloc (.cells #[.int .i64 4, .int .i64 0] 91)).drew.cell? ⟨b3, 9, none⟩ = some (.int .i64 0) ∧ (w13.alloc (.cells #[.int .i64 4, .int .i64 0] 91)).drew.cell? ⟨b6, 0, none⟩ = some (.int .i64 7) ∧ (w13.alloc (.cells #[.int .i64 4, .int .i64 0] 91)).drew.cell? ⟨b6, 1, none⟩ = some (.int .i64 0) ∧ (w13.alloc (.cells #[.int .i64 4, .int .i64 0] 91)).drew.cell? ⟨b6, 2, none⟩ = some (.slice (some ⟨b5, 0, none⟩) 1 1) from ⟨(M13.out.below BL1.out).bl.cell 0, (M13.out.below BL1.out).bl.cell 1, (M13.out.below BL1.out).bl.cell 2, (M13.out.below BL1.out).bl.cell 3, (M13.out.below BL1.out).bl.cell 4, (M13.out.below BL1.out).bl.cell 5, (M13.out.below BL1.out).bl.cell 6, (M13.out.below BL1.out).bl.cell 7, (M13.out.below BL1.out).bl.cell 8, (M13.out.below BL1.out).bl.cell 9, (M13.out.below BL1.out).ba.cell 0, (M13.out.below BL1.out).ba.cell 1, (M13.out.below BL1.out).ba.cell 2⟩); have SM := mh (fun (W : World) (q : Option Addr) (h : Re.DsAt (fun b => w12.heap.size ≤ b ∨ True) W pd [(⟨7, 40, 100, [⟨4, 0⟩]⟩ : Re.Dif)]) (k : Re.DsAt (fun _ => True) W q [(⟨7, 40, 100, [⟨4, 0⟩]⟩ : Re.Dif)]) => show Calls Tryz.prog 45 #[.slice pd 1 cd, .slice q 1 1] W (BoolG true W) from same38_any pd q [(⟨7, 40, 100, [⟨4, 0⟩]⟩ : Re.Dif)] cd 1 W h k)
 go_wp2_with fail
 go_region_held3 (fun w' => w'.cell? ⟨b3, 0, none⟩ = some (.slice (some ⟨b1, 0, none⟩) 1 1) ∧ w'.cell? ⟨b3, 1, none⟩ = some (.slice (some ⟨b2, 0, none⟩) 1 1) ∧ w'.cell? ⟨b3, 2, none⟩ = some (.int .i64 5) ∧ w'.cell? ⟨b3, 3, none⟩ = some (.int .i64 9) ∧ w'.cell? ⟨b3, 4, none⟩ = some (.int .i64 0) ∧ w'.cell? ⟨b3, 5, none⟩ = some (.slice none 0 0) ∧ w'.cell? ⟨b3, 6, none⟩ = some (.int .i64 5000) ∧ w'.cell? ⟨b3, 7, none⟩ = some (.int .i64 5000) ∧ w'.cell? ⟨b3, 8, none⟩ = some (.int .i64 1) ∧ w'.cell? ⟨b3, 9, none⟩ = some (.int .i64 0) ∧ w'.cell? ⟨b6, 0, none⟩ = some (.int .i64 7) ∧ w'.cell? ⟨b6, 1, none⟩ = some (.int .i64 0) ∧ w'.cell? ⟨b6, 2, none⟩ = some (.slice (some ⟨b5, 0, none⟩) 1 1)) (first | with_reducible exact KD.out | with_reducible exact K1.out | with_reducible exact K2.out | with_reducible exact K3.out | with_reducible exact K4.out | with_reducible exact K5.out | go_keep) (first | (go_at_call 45; (with_reducible refine cmo (SM.out _ _ (D2.out.change mle fun b q _ => ⟨rfl, .inr trivial⟩) LT.out) ?_); rintro e w14 ⟨rfl, hb14⟩; have M14 := mh (M2.out.below hb14); have K3 := mh ((kc hb14 <| kc hb14 <| kc hb14 <| kc hb14 <| kc hb14 <| kc hb14 <| kc hb14 <| kc hb14 <| kc hb14 <| kc hb14 <| kc hb14 <| kc hb14 <| k1 hb14) K2.out); clear hb14) | (go_at_call 41; (with_reducible refine cmo (CH.out _ M14.out) ?_); rintro e w15 ⟨vc, rfl, hoc, hb15⟩; obtain ⟨pc, cc, rfl, -, -, -, -, -⟩ := hoc.cut (n := 0) rfl; have M15 := mh (M14.out.below hb15); have K4 := mh ((kc hb15 <| kc hb15 <| kc hb15 <| kc hb15 <| kc hb15 <| kc hb15 <| kc hb15 <| kc hb15 <| kc hb15 <| kc hb15 <| kc hb15 <| kc hb15 <| k1 hb15) K3.out); clear hoc hb15) | (go_at_call 21; (with_reducible refine cmo (CK.out _ M15.out) ?_); rintro e w16 ⟨rfl, hb16⟩; have M16 := mh (M15.out.below hb16); have K5 := mh ((kc hb16 <| kc hb16 <| kc hb16 <| kc hb16 <| kc hb16 <| kc hb16 <| kc hb16 <| kc hb16 <| kc hb16 <| kc hb16 <| kc hb16 <| kc hb16 <| k1 hb16) K4.out); clear hb16) | fail)
 go_wp2_with fail
 go_ret
 exact ⟨rfl, M16.out.low⟩
end Go.Proofs.YtmlfcpglhipjgaaGreat
