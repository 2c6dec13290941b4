/-
  PACKED (pack8.py): what is needed of the texts Xg.
-/
import Derived.Test.YtmlfcpglhipjgaaGreatR12
set_option maxRecDepth 100000
set_option maxHeartbeats 4000000
open Go.Value renaming int → I
open Go.IntKind renaming i64 → O
namespace Go.Proofs.YtmlfcpglhipjgaaGreat
open Go.RowKit Sc As
def Re.EqG {α : Type} (A B : List α) (w : World) (e : Ending) (w' : World) : Prop := ∃ b : Bool, e = .returned (.bool b) ∧ (b = true ↔ A = B) ∧ Below w.heap.size w w'
theorem Re.take_ne {α : Type} {A B : List α} {k : Nat} (h1 : k < A.length) (h2 : k < B.length) (h : A[k] ≠ B[k]) : A ≠ B := by
 rintro rfl; exact h rfl
theorem Re.take_eq {α : Type} {A B : List α} {k : Nat} (h1 : k < A.length) (h2 : k < B.length) (h0 : A.take k = B.take k) (h : A[k] = B[k]) : A.take (k + 1) = B.take (k + 1) := by
 rw [tsg h1, tsg h2, h0, h]
theorem eqints_any (p q : Option Addr) (A B : List Int) (c d : Nat) (w : World) (h : Ints w p A) (k : Ints w q B) : Calls Tryz.prog 118 #[.slice p A.length c, .slice q B.length d] w (Re.EqG A B w) := by
 have H := mh h; have K := mh k; have hA := h.len; have hB := k.len; clear h k
 by_cases hl : A.length = B.length
 rotate_left
 ·have hne : ((A.length : Int) != (B.length : Int)) = true := by simpa using (by omega : ¬ (A.length : Int) = (B.length : Int))
  have NE := mh (show A ≠ B from fun e => hl (by rw [e])); clear hl
  go_enter Tryz.func118, Tryz.ntmps118
  go_wp2
  go_ret
  exact ⟨false, rfl, by simpa using NE.out, brf _ _⟩
 ·obtain ⟨n, en⟩ : ∃ n, A.length = n := ⟨_, rfl⟩
  have HNA := mh en; have HNB := mh (show B.length = n by rw [← hl, en]); rw [← hl, en]; have hn : (n : Int) ≤ 9223372036854775807 := by omega
  have hne : ((n : Int) != (n : Int)) = false := by simp
  clear hl hA hB en
  go_enter Tryz.func118, Tryz.ntmps118
  go_wp2
  go_loopw [13] (fun i wr => ∃ k : Nat, k ≤ n ∧ i = I O k ∧ A.take k = B.take k ∧ Below w.heap.size w wr) (fun i _ => n - (intOf i).toNat)
  case atStart => exact ⟨0, Nat.zero_le _, rfl, rfl, brf _ _⟩
  case round =>
   obtain ⟨wo, rfl⟩ : ∃ wo : World, wo = wr := ⟨_, rfl⟩; obtain ⟨k, hk, rfl, htk, hb⟩ := hrel; have HB := mh hb; have HT := mh htk; have hk0 : (0 : Int) ≤ (k : Int) := inn _; clear htk
   by_cases hlt : k < n
   ·have hk1 : (k : Int) < (n : Int) := by omega
    have h1 : k < A.length := by rw [HNA.out]; exact hlt
    have h2 : k < B.length := by rw [HNB.out]; exact hlt
    obtain ⟨b, off, rfl, hbl, c0⟩ := (H.out.below hb).at h1; obtain ⟨b', off', rfl, hbl', d0⟩ := (K.out.below hb).at h2; have gA : A.getD k 0 = A[k] := by rw [List.getD_eq_getElem?_getD, List.getElem?_eq_getElem h1]; rfl
    have gB : B.getD k 0 = B[k] := by rw [List.getD_eq_getElem?_getD, List.getElem?_eq_getElem h2]; rfl
    rw [gA] at c0; rw [gB] at d0; have TE := mh (fun h => Re.take_eq h1 h2 HT.out h); have TN := mh (fun h => Re.take_ne h1 h2 h); obtain ⟨x, ex⟩ : ∃ x, A[k] = x := ⟨_, rfl⟩; obtain ⟨y, ey⟩ : ∃ y, B[k] = y := ⟨_, rfl⟩; rw [ex, ey] at TE TN; rw [ex] at c0; rw [ey] at d0; clear gA gB ex ey hb
    by_cases hxy : x = y
    ·have hc : (x != y) = false := by simpa using hxy
     have TT := mh (TE.out hxy); clear hxy
     go_wp2
     go_quiet (fail)
     go_wp2
     go_roundw
     case rel => exact ⟨k + 1, by omega, by go_num, TT.out, bnext HB.out HB.out.size (drewN_below _ _)⟩
     case measure => simp [intOf]; omega
    ·have hc : (x != y) = true := by simpa using hxy
     have NE := mh (TN.out hxy); clear hxy
     go_wp2
     go_quiet (fail)
     go_wp2
     go_ret
     exact ⟨false, rfl, by simpa using NE.out, bnext HB.out HB.out.size (drewN_below _ _)⟩
   ·obtain rfl : k = n := by omega
    have EQ := mh (show A = B by have := HT.out; rw [List.take_of_length_le (by rw [HNA.out]; exact Nat.le_refl _), List.take_of_length_le (by rw [HNB.out]; exact Nat.le_refl _)] at this; exact this); clear hb
    go_wp2
    go_ret
    exact ⟨true, rfl, by simpa using EQ.out, HB.out⟩
theorem eqawds_any (p q : Option Addr) (A B : List Awd) (c d : Nat) (w : World) (h : Recs SA w p A) (k : Recs SA w q B) : Calls Tryz.prog 125 #[.slice p A.length c, .slice q B.length d] w (Re.EqG A B w) := by
 have H := mh h; have K := mh k; have hA := h.len; have hB := k.len; clear h k
 by_cases hl : A.length = B.length
 rotate_left
 ·have hne : ((A.length : Int) != (B.length : Int)) = true := by simpa using (by omega : ¬ (A.length : Int) = (B.length : Int))
  have NE := mh (show A ≠ B from fun e => hl (by rw [e])); clear hl
  go_enter Tryz.func125, Tryz.ntmps125
  go_wp2
  go_ret
  exact ⟨false, rfl, by simpa using NE.out, brf _ _⟩
 ·obtain ⟨n, en⟩ : ∃ n, A.length = n := ⟨_, rfl⟩
  have HNA := mh en; have HNB := mh (show B.length = n by rw [← hl, en]); rw [← hl, en]; have hn : (n : Int) ≤ 9223372036854775807 := by omega
  have hne : ((n : Int) != (n : Int)) = false := by simp
  clear hl hA hB en
  go_enter Tryz.func125, Tryz.ntmps125
  go_wp2
  go_loopw [13] (fun i wr => ∃ k : Nat, k ≤ n ∧ i = I O k ∧ A.take k = B.take k ∧ Below w.heap.size w wr) (fun i _ => n - (intOf i).toNat)
  case atStart => exact ⟨0, Nat.zero_le _, rfl, rfl, brf _ _⟩
  case round =>
   obtain ⟨wo, rfl⟩ : ∃ wo : World, wo = wr := ⟨_, rfl⟩; obtain ⟨k, hk, rfl, htk, hb⟩ := hrel; have HB := mh hb; have HT := mh htk; have hk0 : (0 : Int) ≤ (k : Int) := inn _; clear htk
   by_cases hlt : k < n
   ·have hk1 : (k : Int) < (n : Int) := by omega
    have h1 : k < A.length := by rw [HNA.out]; exact hlt
    have h2 : k < B.length := by rw [HNB.out]; exact hlt
    obtain ⟨b, off, rfl, hbl, ⟨c0, c1, c2, c3, c4, c5, c6, c7, c8⟩⟩ := SA_at (H.out.below hb) h1; obtain ⟨b', off', rfl, hbl', ⟨d0, d1, d2, d3, d4, d5, d6, d7, d8⟩⟩ := SA_at (K.out.below hb) h2; have TE := mh (fun h => Re.take_eq h1 h2 HT.out h); have TN := mh (fun h => Re.take_ne h1 h2 h); obtain ⟨⟨a1, a2, a3, a4, a5, a6, a7, a8, a9⟩, ex⟩ : ∃ x, A[k] = x := ⟨_, rfl⟩; obtain ⟨⟨b1, b2, b3, b4, b5, b6, b7, b8, b9⟩, ey⟩ : ∃ y, B[k] = y := ⟨_, rfl⟩; rw [ex, ey] at TE TN; rw [ex] at c0 c1 c2 c3 c4 c5 c6 c7 c8; rw [ey] at d0 d1 d2 d3 d4 d5 d6 d7 d8; simp only at c0 c1 c2 c3 c4 c5 c6 c7 c8 d0 d1 d2 d3 d4 d5 d6 d7 d8; clear ex ey hb
    by_cases hxy : (⟨a1, a2, a3, a4, a5, a6, a7, a8, a9⟩ : Awd) = ⟨b1, b2, b3, b4, b5, b6, b7, b8, b9⟩
    ·have TT := mh (TE.out hxy)
     cases hxy
     go_wp2
     go_quiet (fail)
     go_wp2
     go_roundw
     case rel => exact ⟨k + 1, by omega, by go_num, TT.out, bnext HB.out HB.out.size (drewN_below _ _)⟩
     case measure => simp [intOf]; omega
    ·have NE := mh (TN.out hxy)
     have HC := mh hxy; clear hxy
     by_cases e1 : a1 = b1
     rotate_left
     ·have hc : (a1 == b1) = false := by simpa using e1
      have hd : (a1 != b1) = true := by simpa using e1
      clear e1
      go_wp2
      go_quiet (fail)
      go_wp2
      go_ret
      exact ⟨false, rfl, by simpa using NE.out, bnext HB.out HB.out.size (drewN_below _ _)⟩
     subst e1
     by_cases e2 : a2 = b2
     rotate_left
     ·have hc : (a2 == b2) = false := by simpa using e2
      have hd : (a2 != b2) = true := by simpa using e2
      clear e2
      go_wp2
      go_quiet (fail)
      go_wp2
      go_ret
      exact ⟨false, rfl, by simpa using NE.out, bnext HB.out HB.out.size (drewN_below _ _)⟩
     subst e2
     by_cases e3 : a3 = b3
     rotate_left
     ·have hc : (a3 == b3) = false := by simpa using e3
      have hd : (a3 != b3) = true := by simpa using e3
      clear e3
      go_wp2
      go_quiet (fail)
      go_wp2
      go_ret
      exact ⟨false, rfl, by simpa using NE.out, bnext HB.out HB.out.size (drewN_below _ _)⟩
     subst e3
     by_cases e4 : a4 = b4
     rotate_left
     ·have hc : (a4 == b4) = false := by simpa using e4
      have hd : (a4 != b4) = true := by simpa using e4
      clear e4
      go_wp2
      go_quiet (fail)
      go_wp2
      go_ret
      exact ⟨false, rfl, by simpa using NE.out, bnext HB.out HB.out.size (drewN_below _ _)⟩
     subst e4
     by_cases e5 : a5 = b5
     rotate_left
     ·have hc : (a5 == b5) = false := by simpa using e5
      have hd : (a5 != b5) = true := by simpa using e5
      clear e5
      go_wp2
      go_quiet (fail)
      go_wp2
      go_ret
      exact ⟨false, rfl, by simpa using NE.out, bnext HB.out HB.out.size (drewN_below _ _)⟩
     subst e5
     by_cases e6 : a6 = b6
     rotate_left
     ·have hc : (a6 == b6) = false := by simpa using e6
      have hd : (a6 != b6) = true := by simpa using e6
      clear e6
      go_wp2
      go_quiet (fail)
      go_wp2
      go_ret
      exact ⟨false, rfl, by simpa using NE.out, bnext HB.out HB.out.size (drewN_below _ _)⟩
     subst e6
     by_cases e7 : a7 = b7
     rotate_left
     ·have hc : (a7 == b7) = false := by simpa using e7
      have hd : (a7 != b7) = true := by simpa using e7
      clear e7
      go_wp2
      go_quiet (fail)
      go_wp2
      go_ret
      exact ⟨false, rfl, by simpa using NE.out, bnext HB.out HB.out.size (drewN_below _ _)⟩
     subst e7
     by_cases e8 : a8 = b8
     rotate_left
     ·have hc : (a8 == b8) = false := by simpa using e8
      have hd : (a8 != b8) = true := by simpa using e8
      clear e8
      go_wp2
      go_quiet (fail)
      go_wp2
      go_ret
      exact ⟨false, rfl, by simpa using NE.out, bnext HB.out HB.out.size (drewN_below _ _)⟩
     subst e8
     by_cases e9 : a9 = b9
     rotate_left
     ·have hc : (a9 == b9) = false := by simpa using e9
      have hd : (a9 != b9) = true := by simpa using e9
      clear e9
      go_wp2
      go_quiet (fail)
      go_wp2
      go_ret
      exact ⟨false, rfl, by simpa using NE.out, bnext HB.out HB.out.size (drewN_below _ _)⟩
     subst e9; exact absurd rfl HC.out
   ·obtain rfl : k = n := by omega
    have EQ := mh (show A = B by have := HT.out; rw [List.take_of_length_le (by rw [HNA.out]; exact Nat.le_refl _), List.take_of_length_le (by rw [HNB.out]; exact Nat.le_refl _)] at this; exact this); clear hb
    go_wp2
    go_ret
    exact ⟨true, rfl, by simpa using EQ.out, HB.out⟩
end Go.Proofs.YtmlfcpglhipjgaaGreat
