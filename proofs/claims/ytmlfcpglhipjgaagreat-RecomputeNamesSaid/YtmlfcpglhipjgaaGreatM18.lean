/-
  PACKED (pack8.py): what is needed of the texts Rb, T20, W3, T2, T6.
-/
import Derived.Test.YtmlfcpglhipjgaaGreatM11
set_option maxRecDepth 100000
set_option maxHeartbeats 8000000
open Go.Value renaming int → I
open Go.IntKind renaming i64 → O
namespace Go.Proofs.YtmlfcpglhipjgaaGreat
open Go.RowKit
theorem ab_eq {D : List (Int × Int)} {k : Nat} {x y : Int} (h : D.getD k (0, 0) = (x, y)) : Re.ab D k = x := by unfold Re.ab; rw [h]
theorem ti_eq {D : List (Int × Int)} {k : Nat} {x y : Int} (h : D.getD k (0, 0) = (x, y)) : Re.ti D k = y := by unfold Re.ti; rw [h]
theorem hold_facts {D : List (Int × Int)} {k : Nat} {x y d f : Int} (hR : Re.Right D) (hk : k < D.length) (h : D.getD k (0, 0) = (x, y)) (d0 : 0 ≤ d ∧ d ≤ 268435456) (f0 : 0 ≤ f ∧ f ≤ 268435456) :
  ∃ X M : Int, IntKind.i64.wrap (x * f) = X ∧ IntKind.i64.wrap (1000 * max 0 (d - f)) = M ∧ IntKind.i64.wrap (d - f) = d - f ∧ Re.holds D d f k = decide (X < M) := by
 have h1 := hR.ab0 hk; rw [ab_eq h] at h1; have h2 : 0 ≤ x * f := Int.mul_nonneg h1.1 f0.1; have h3 : x * f ≤ 100000 * 268435456 := Int.mul_le_mul h1.2 f0.2 f0.1 (by omega); refine ⟨x * f, 1000 * max 0 (d - f), ?_, ?_, ?_, ?_⟩
 ·generalize x * f = y at *; rw [IntKind.wrap_i64]; omega
 ·rw [IntKind.wrap_i64]; omega
 ·rw [IntKind.wrap_i64]; omega
 ·unfold Re.holds; rw [ab_eq h]
theorem rstep_any (p : Option Addr) (D : List (Int × Int)) (cap : Nat) (d f : Int) (w : World) (h : Pairs w p D) (hR : Re.Right D) (d0 : 0 ≤ d ∧ d ≤ 268435456) (f0 : 0 ≤ f ∧ f ≤ 268435456) :
  Calls Tryz.prog 193 #[.slice p D.length cap, I O d, I O f] w fun e w' => e = .returned (I O (Re.step D d f)) ∧ w = w' := by
 have H := mh h; have R := mh hR; have h6 := hR.len; have h1 := hR.len1; have hwl : IntKind.i64.wrap ((D.length : Int) - 1) = (D.length : Int) - 1 := by rw [IntKind.wrap_i64]; omega
 have hwd : IntKind.i64.wrap (d - f) = d - f := by rw [IntKind.wrap_i64]; omega
 clear h hR
 go_enter Tryz.func193, Tryz.ntmps193
 go_wp2
 go_loop [8] (fun i => ∃ k : Nat, k ≤ D.length ∧ i = I O ((k : Int) - 1) ∧ Re.step D d f = Re.stepTo D d f k) (fun i => (intOf i + 1).toNat)
 case atStart => exact ⟨D.length, Nat.le_refl _, rfl, rfl⟩
 case round =>
  obtain ⟨k, hk, rfl, hst⟩ := hrel; have HST := mh hst; clear hst
  rcases Nat.eq_zero_or_pos k with rfl | hpos
  ·go_wp2
   go_ret
   exact ⟨by rw [HST.out]; rfl, rfl⟩
  ·obtain ⟨n, rfl⟩ : ∃ n, k = n + 1 := ⟨k - 1, by omega⟩
   have hlt : n < D.length := by omega
   obtain ⟨b, off, x, y, rfl, hbl, hx, hy, hxy⟩ := H.out.get hlt; obtain ⟨X, M, g2, g3, g4, g5⟩ := hold_facts R.out hlt hxy.out d0 f0; have HS := mh (show Re.stepTo D d f (n + 1) = if Re.holds D d f n = true then (n : Int) else Re.stepTo D d f n from rfl); have hn0 : (0 : Int) ≤ (n : Int) := inn _; have hn1 : (n : Int) < (D.length : Int) := by omega
   have hnn : (n : Int) + 1 - 1 = (n : Int) := by omega
   have hwn : IntKind.i64.wrap ((n : Int) - 1) = (n : Int) - 1 := by rw [IntKind.wrap_i64]; omega
   by_cases hh : X < M
   ·have hh' : decide (X < M) = true := dqt hh
    have HE := mh (show Re.step D d f = (n : Int) by rw [HST.out, HS.out, g5, if_pos hh']); clear g5
    go_wp2
    go_ret
    exact ⟨by rw [HE.out]; rfl, rfl⟩
   ·have hh' : decide (X < M) = false := dqf hh
    have HE := mh (show Re.step D d f = Re.stepTo D d f n by rw [HST.out, HS.out, g5, hh', if_neg (by decide)]); clear g5
    go_wp2
    go_round
    case rel => exact ⟨n, by omega, rfl, HE.out⟩
    case measure => simp [intOf]
theorem step_cases (D : List (Int × Int)) (d f : Int) :
  (Re.chk D = 66 ∧ Re.stepV D d f = -1) ∨ (Re.chk D = 0 ∧ Re.area d = false ∧ Re.stepV D d f = -1) ∨ (Re.chk D = 0 ∧ Re.area d = true ∧ Re.area f = false ∧ Re.stepV D d f = -1) ∨ (Re.chk D = 0 ∧ Re.area d = true ∧ Re.area f = true ∧ Re.Right D ∧ Re.stepV D d f = Re.step D d f) := by
 by_cases hR : Re.Right D
 ·have c := Re.chk_zero.2 hR
  cases h1 : Re.area d
  ·exact .inr (.inl ⟨c, rfl, by unfold Re.stepV; rw [if_pos (.inr (.inl h1))]⟩)
  ·cases h2 : Re.area f
   ·exact .inr (.inr (.inl ⟨c, rfl, rfl, by unfold Re.stepV; rw [if_pos (.inr (.inr h2))]⟩))
   ·exact .inr (.inr (.inr ⟨c, rfl, rfl, hR, by unfold Re.stepV; rw [if_neg]; rw [c, h1, h2]; simp⟩))
 ·have c := Re.chk_not hR
  exact .inl ⟨c, by unfold Re.stepV; rw [if_pos (.inl (by rw [c]; decide))]⟩
theorem paid_cases (D : List (Int × Int)) (d f : Int) :
  (Re.chk D = 66 ∧ Re.paidErr D d f = 66 ∧ Re.paidVal D d f = 0) ∨ (Re.chk D = 0 ∧ Re.area d = false ∧ Re.paidErr D d f = 2 ∧ Re.paidVal D d f = 0) ∨ (Re.chk D = 0 ∧ Re.area d = true ∧ Re.area f = false ∧ Re.paidErr D d f = 2 ∧ Re.paidVal D d f = 0) ∨
  (Re.chk D = 0 ∧ Re.area d = true ∧ Re.area f = true ∧ Re.Right D ∧ Re.paidErr D d f = 0 ∧ Re.paidVal D d f = Re.paid D d f) := by
 rcases step_cases D d f with ⟨c, -⟩ | ⟨c, h1, -⟩ | ⟨c, h1, h2, -⟩ | ⟨c, h1, h2, hR, -⟩
 ·have e : Re.paidErr D d f = 66 := by unfold Re.paidErr; rw [if_pos (by rw [c]; decide)]
  exact .inl ⟨c, e, by unfold Re.paidVal; rw [if_pos (by rw [e]; decide)]⟩
 ·have e : Re.paidErr D d f = 2 := by unfold Re.paidErr; rw [if_neg (by rw [c]; decide), if_pos (.inl h1)]
  exact .inr (.inl ⟨c, h1, e, by unfold Re.paidVal; rw [if_pos (by rw [e]; decide)]⟩)
 ·have e : Re.paidErr D d f = 2 := by unfold Re.paidErr; rw [if_neg (by rw [c]; decide), if_pos (.inr h2)]
  exact .inr (.inr (.inl ⟨c, h1, h2, e, by unfold Re.paidVal; rw [if_pos (by rw [e]; decide)]⟩))
 ·have e : Re.paidErr D d f = 0 := by unfold Re.paidErr; rw [if_neg (by rw [c]; decide), if_neg (by rw [h1, h2]; simp)]
  exact .inr (.inr (.inr ⟨c, h1, h2, hR, e, by unfold Re.paidVal; rw [if_neg (by rw [e]; decide)]⟩))
theorem paid_any (p : Option Addr) (D : List (Int × Int)) (cap : Nat) (d f : Int) (w : World) (h : Pairs w p D) :
  Calls Tryz.prog 154 #[.slice p D.length cap, I O d, I O f] w fun e w' => e = .returned (.tuple #[I O (Re.paidVal D d f), I O (Re.paidErr D d f)]) ∧ Below w.heap.size w w' := by
 have hc := rcheck_any p D cap w h
 rcases paid_cases D d f with ⟨c, e, e2⟩ | ⟨c, h1, e, e2⟩ | ⟨c, h1, h2, e, e2⟩ | ⟨c, h1, h2, hR, e, e2⟩
 all_goals rw [c] at hc; rw [e, e2]
 ·have HC := mh hc
  clear hc h c e e2
  go_enter Tryz.func154, Tryz.ntmps154
  go_wp2_with (first | (go_at_call 59; refine (HC.out).mono ?_; rintro e w1 ⟨rfl, hb1⟩))
  go_ret2
  exact ⟨rfl, hb1⟩
 ·have HC := mh hc
  clear hc h c e e2
  go_enter Tryz.func154, Tryz.ntmps154
  go_wp2_with (first | (go_at_call 59; refine (HC.out).mono ?_; rintro e w1 ⟨rfl, hb1⟩) | (go_at_call 192; refine (area_any _ _).mono ?_; rintro e w' ⟨rfl, rfl⟩))
  go_ret2
  exact ⟨rfl, hb1⟩
 ·have HC := mh hc
  clear hc h c e e2
  go_enter Tryz.func154, Tryz.ntmps154
  go_wp2_with (first | (go_at_call 59; refine (HC.out).mono ?_; rintro e w1 ⟨rfl, hb1⟩) | (go_at_call 192; refine (area_any _ _).mono ?_; rintro e w' ⟨rfl, rfl⟩))
  go_ret2
  exact ⟨rfl, hb1⟩
 ·have HC := mh hc
  have H := mh h; have d0 := Re.area_iff.1 h1; have f0 := Re.area_iff.1 h2; have h6 := hR.len
  by_cases hdf : d ≤ f
  ·have hp : Re.paid D d f = d := by unfold Re.paid; rw [if_pos hdf]
   rw [hp]; clear hc h c e e2 hp hR
   go_enter Tryz.func154, Tryz.ntmps154
   go_wp2_with (first | (go_at_call 59; refine (HC.out).mono ?_; rintro e w1 ⟨rfl, hb1⟩) | (go_at_call 192; refine (area_any _ _).mono ?_; rintro e w' ⟨rfl, rfl⟩))
   go_ret2
   exact ⟨rfl, hb1⟩
  have hs := fun (W : World) (hP : Pairs W p D) => rstep_any p D cap d f W hP hR d0 f0
  rcases Re.step_spec (l := D) (d := d) (f := f) with ⟨es, -⟩ | ⟨n, es, hn, -, -⟩
  ·have hp : Re.paid D d f = f := by unfold Re.paid; rw [if_neg hdf, if_pos (by omega)]
   rw [hp]; rw [es] at hs; have HS := mh hs; clear hc h c e e2 hp hs es hR
   go_enter Tryz.func154, Tryz.ntmps154
   go_wp2_with (first | (go_at_call 59; refine (HC.out).mono ?_; rintro e w1 ⟨rfl, hb1⟩) | (go_at_call 192; refine (area_any _ _).mono ?_; rintro e w' ⟨rfl, rfl⟩) | (go_at_call 193; refine (HS.out _ (H.out.below hb1)).mono ?_; rintro e w' ⟨rfl, rfl⟩))
   go_ret2
   exact ⟨rfl, hb1⟩
  ·obtain ⟨b, off, x, y, rfl, hbl, hx, hy, hxy⟩ := H.out.get hn
   have ht := ti_eq hxy.out; rw [es] at hs; have HS := mh hs; have hn0 : (0 : Int) ≤ (n : Int) := inn _; have hn1 : (n : Int) < (D.length : Int) := by omega
   have hnB : decide ((n : Int) < 0) = false := dqf (by omega)
   by_cases hy1 : y = -1
   ·have hp : Re.paid D d f = 0 := by unfold Re.paid; rw [if_neg hdf, if_neg (by omega), es, Int.toNat_natCast, ht, if_pos hy1]
    rw [hp]; have hyB : (y == -1) = true := beq_iff_eq.2 hy1; clear hc h c e e2 hp hs es hR ht hy1
    go_enter Tryz.func154, Tryz.ntmps154
    go_wp2_with (first | (go_at_call 59; refine HC.out.mono ?_; rintro e w1 ⟨rfl, hb1⟩; have hy2 := (hb1.cell (p := ⟨b, off + n * 2 + 1, none⟩) hbl).trans hy) | (go_at_call 192; refine (area_any _ _).mono ?_; rintro e w' ⟨rfl, rfl⟩) | (go_at_call 193; refine (HS.out _ (H.out.below hb1)).mono ?_; rintro e w' ⟨rfl, rfl⟩))
    go_ret2
    exact ⟨rfl, hb1⟩
   ·have hp : Re.paid D d f = max 0 (f - y * (d - f)) := by unfold Re.paid; rw [if_neg hdf, if_neg (by omega), es, Int.toNat_natCast, ht, if_neg hy1]
    rw [hp]; have hyB : (y == -1) = false := beq_eq_false_iff_ne.2 hy1; have hyb : 0 ≤ y ∧ y ≤ 10 := by
     have := hR.ti0 hn; rw [ht] at this; omega
    have m0 : 0 ≤ y * (d - f) := Int.mul_nonneg hyb.1 (by omega); have m1 : y * (d - f) ≤ 10 * 268435456 := Int.mul_le_mul hyb.2 (by omega) (by omega) (by omega); have hwd : IntKind.i64.wrap (d - f) = d - f := by rw [IntKind.wrap_i64]; omega
    obtain ⟨M, hM⟩ : ∃ M, y * (d - f) = M := ⟨_, rfl⟩; have hwm : IntKind.i64.wrap (y * (d - f)) = M := by rw [hM] at m0 m1 ⊢; rw [IntKind.wrap_i64]; omega
    rw [hM] at m0 m1 ⊢; have hws : IntKind.i64.wrap (f - M) = f - M := by rw [IntKind.wrap_i64]; omega
    clear hc h c e e2 hp hs es hR ht hM
    go_enter Tryz.func154, Tryz.ntmps154
    go_wp2_with (first | (go_at_call 59; refine HC.out.mono ?_; rintro e w1 ⟨rfl, hb1⟩; have hy2 := (hb1.cell (p := ⟨b, off + n * 2 + 1, none⟩) hbl).trans hy) | (go_at_call 192; refine (area_any _ _).mono ?_; rintro e w' ⟨rfl, rfl⟩) | (go_at_call 193; refine (HS.out _ (H.out.below hb1)).mono ?_; rintro e w' ⟨rfl, rfl⟩))
    go_ret2
    exact ⟨rfl, hb1⟩
open Te
theorem down100_any (n : Int) (h0 : 0 ≤ n) (h1 : n ≤ 1125899906842624) (w : World) : Calls Tryz.prog 194 #[I O n, I O 100] w fun e w' => e = .returned (I O (n / 100)) ∧ w = w' := by
 have FT : ∀ W, Calls Tryz.prog 223 #[I O n, I O 100] W fun e w' => e = .returned (.bool true) ∧ W = w' := fun W => by
  have g : ¬ n < -1125899906842624 := by omega
  have g2 : (-1125899906842624 : Int) ≤ n := by omega
  go_enter Tryz.func223, Tryz.ntmps223
  go_wp2
  go_ret
  exact ⟨rfl, rfl⟩
 have FT := mh FT; have hq : n.tdiv 100 = n / 100 := Int.tdiv_eq_ediv_of_nonneg h0; have hr : n.tmod 100 = n % 100 := Int.tmod_eq_emod_of_nonneg h0; have hr2 : ¬ n % 100 < 0 := by omega
 go_enter Tryz.func194, Tryz.ntmps194
 go_wp2_with (first | (go_at_call 223; (with_reducible refine cmo (FT.out _) ?_); rintro e w1 ⟨rfl, rfl⟩))
 go_ret
 exact ⟨rfl, rfl⟩
theorem name_len {l : List UInt8} (h : l.length < 1 ∨ 12 < l.length) : Wo.nameB l = false := by
 unfold Wo.nameB; have : (decide (1 ≤ l.length) && decide (l.length ≤ 12)) = false := by
  rw [Bool.and_eq_false_iff, decide_eq_false_iff_not, decide_eq_false_iff_not]; omega
 rw [this, Bool.and_false]
theorem refname_any (s : ByteArray) (w : World) (hs : s.size ≤ 9223372036854775807) :
  Calls Tryz.prog 136 #[.string s] w (NameGive s.data.toList w) := by
 have hlen : s.data.toList.length = s.size := by rw [Array.length_toList]; rfl
 by_cases h1 : s.size < 1
 ·have HN := mh (name_len (l := s.data.toList) (.inl (by omega)))
  have h1' : (s.size : Int) < 1 := by omega
  clear h1 hlen
  go_enter Tryz.func136, Tryz.ntmps136
  go_wp2
  go_ret
  exact ⟨ret_b HN.out.symm, rfl⟩
 have g1 : ¬ (s.size : Int) < 1 := by omega
 by_cases h2 : 12 < s.size
 ·have HN := mh (name_len (l := s.data.toList) (.inr (by omega)))
  have h2' : (12 : Int) < (s.size : Int) := by omega
  clear h1 h2 hlen
  go_enter Tryz.func136, Tryz.ntmps136
  go_wp2
  go_ret
  exact ⟨ret_b HN.out.symm, rfl⟩
 have g2 : ¬ (12 : Int) < (s.size : Int) := by omega
 have h0 : 0 < s.size := by omega
 have H1 := mh (show Wo.headB (s.data.toList.take 1) = Wo.letB s[0] by
  rw [Wo.take_snoc_bytes s 0 h0, Wo.headB_snoc]; simp [Wo.headB])
 have HN := mh (show Wo.headB s.data.toList = true → Wo.nameB s.data.toList = true by
  intro h; unfold Wo.nameB
  rw [h, Bool.true_and, Bool.and_eq_true, decide_eq_true_eq, decide_eq_true_eq, hlen]; omega)
 have hlen' := mh hlen; clear h1 h2 hlen
 cases hl : Wo.letB s[0]
 ·have HF := mh (headB_false (l := s.data.toList) (k := 1) (by rw [H1.out, hl]))
  rcases byte_kinds s[0] with ⟨c1, l1, d1⟩ | ⟨c1, c2, l1, d1⟩ | ⟨c1, c2, l1, d1⟩ | ⟨c1, c2, l1, d1⟩ | ⟨c1, l1, d1⟩
  all_goals first | (rw [hl] at l1; cases l1; done) | skip
  all_goals
   clear l1 d1 hl
   go_enter Tryz.func136, Tryz.ntmps136
   go_wp2
   go_ret
   exact ⟨ret_b HF.out.symm, rfl⟩
 ·have HL := mh hl
  have hh : 97 ≤ ((s[0]).toNat : Int) ∧ ((s[0]).toNat : Int) ≤ 122 := by
   simp only [Wo.letB, Bool.and_eq_true, decide_eq_true_eq] at hl; exact hl
  obtain ⟨c1, c2⟩ := hh; clear hl
  go_enter Tryz.func136, Tryz.ntmps136
  go_wp2
  clear c1 c2
  go_loop [3] (fun i => ∃ k : Nat, k ≤ s.size ∧ i = I O k ∧ Wo.headB (s.data.toList.take k) = true) (fun i => s.size - (intOf i).toNat)
  case atStart => exact ⟨0, Nat.zero_le _, rfl, rfl⟩
  case round =>
   obtain ⟨k, hk, rfl, hh⟩ := hrel; have HH := mh hh; clear hh; have hk0 : (0 : Int) ≤ (k : Int) := inn _
   by_cases hlt : k < s.size
   ·have HS := mh (show Wo.headB (s.data.toList.take (k + 1)) = (Wo.letB s[k] || Wo.digB s[k]) by
     rcases Nat.eq_zero_or_pos k with h0 | hpos
     ·subst h0
      rw [H1.out, HL.out]; rfl
     ·rw [Wo.take_snoc_bytes s k hlt, Wo.headB_snoc, HH.out, Bool.true_and]
      have : (s.data.toList.take k).isEmpty = false := by
       rw [List.isEmpty_eq_false_iff, ne_eq, List.take_eq_nil_iff, not_or]; exact ⟨by omega, fun e => by have h9 : s.data.toList.length = 0 := (by rw [e]; rfl); rw [hlen'.out] at h9; omega⟩
      rw [this]; rfl)
    rcases byte_kinds s[k] with ⟨c1, l1, d1⟩ | ⟨c1, c2, l1, d1⟩ | ⟨c1, c2, l1, d1⟩ | ⟨c1, c2, l1, d1⟩ | ⟨c1, l1, d1⟩
    all_goals
     rw [l1, d1] at HS; clear l1 d1
     go_wp2
     first
      | (go_round
         case rel => exact ⟨k + 1, by omega, by go_num, HS.out⟩
         case measure => simp [intOf]; omega)
      | (go_ret
         exact ⟨ret_b (headB_false HS.out).symm, rfl⟩)
   ·obtain rfl : k = s.size := by omega
    have HE := mh (HN.out (by have h := HH.out; rwa [List.take_of_length_le (by rw [Array.length_toList]; exact Nat.le_refl _)] at h))
    go_wp2
    go_ret
    exact ⟨ret_b HE.out.symm, rfl⟩
def RcOk (lim : Nat) (c : Nat) (n : Int) : Prop := (c ≤ lim → n = (c : Int)) ∧ (lim < c → (lim : Int) < n) ∧ 1 ≤ n ∧ n ≤ (c : Int)
def RcG (lim : Nat) (c : Nat) (w : World) (e : Ending) (w' : World) : Prop := ∃ n : Int, RcOk lim c n ∧ e = .returned (I O n) ∧ Below w.heap.size w w'
theorem RcOk.step {lim c k : Nat} {n m : Int} (h : RcOk lim c n) (hn : n ≤ lim) (h2 : RcOk lim k m) : RcOk lim (c + k) (n + m) := by
 obtain ⟨a1, a2, a3, a4⟩ := h; obtain ⟨b1, b2, b3, b4⟩ := h2; have hc : c ≤ lim := by
  rcases Nat.lt_or_ge lim c with h | h
  ·have := a2 h; omega
  ·exact h
 have := a1 hc; refine ⟨fun h => ?_, fun h => ?_, by omega, by omega⟩
 ·have := b1 (by omega); omega
 ·rcases Nat.lt_or_ge lim k with h3 | h3
  ·have := b2 h3; omega
  ·have := b1 h3; omega
theorem RcOk.keep {lim c k : Nat} {n : Int} (h : RcOk lim c n) (hn : lim < n) : RcOk lim (c + k) n := by
 obtain ⟨a1, a2, a3, a4⟩ := h; exact ⟨fun h => by omega, fun _ => hn, a3, by omega⟩
theorem count_cons (to_ tn tm : Int) (K : List Tm) : count (.mk to_ tn tm K) = 1 + countL K := by rw [count]
theorem depth_cons (to_ tn tm : Int) (K : List Tm) : depth (.mk to_ tn tm K) = depthL K + 1 := by rw [depth]
theorem countL_bd (K : List Tm) (j : Nat) (h : j < K.length) : count K[j] ≤ countL K := countL_mem (List.getElem_mem h)
theorem depthL_append (A B : List Tm) : depthL (A ++ B) = max (depthL A) (depthL B) := by
 induction A with
 | nil => simp [depthL]
 | cons a r ih => rw [List.cons_append, depthL, depthL, ih]; omega
theorem depthL_succ (K : List Tm) (j : Nat) (h : j < K.length) : depthL (K.take (j + 1)) = max (depthL (K.take j)) (depth K[j]) := by
 rw [tsg h, depthL_append, depthL, depthL]; omega
mutual
theorem depth_le_count : ∀ t : Tm, depth t ≤ count t
 | .mk o n m K => by rw [depth, count]; have := depthL_le_count K; omega
theorem depthL_le_count : ∀ K : List Tm, depthL K ≤ countL K
 | [] => by simp [depthL]
 | k :: r => by rw [depthL, countL]; have := depth_le_count k; have := depthL_le_count r; omega
end
theorem count16r_any {Q : Nat → Prop} : ∀ (d : Nat) (r : RT) (t : Tm) (w : World), TV Q w d r t → count t ≤ 1099511627776 →
  Calls Tryz.prog 180 #[.agg #[I O r.op, I O r.num, I O r.more, .slice r.p r.n r.c]] w (RcG 40 (count t) w) := by
 intro d
 induction d using Nat.strongRecOn with
 | _ d ih =>
 intro r t w h hz; obtain ⟨ro, rn, rm, rp, rl, rc⟩ := r; obtain ⟨to_, tn, tm, K⟩ := t; have hat : TmsAt Q w d rp K := h.at_; have hlen : rl = K.length := h.is.n; have hn := hat.len; rw [count_cons] at hz ⊢; simp only; subst hlen; have HT := mh hat; have IH := mh ih; clear h ih hat
 go_enter Tryz.func180, Tryz.ntmps180
 go_wp2
 go_loopw [3, 9] (fun n i wr => ∃ (j : Nat) (N : Int), j ≤ K.length ∧ i = I O j ∧ n = I O N ∧ RcOk 40 (1 + countL (K.take j)) N ∧ Below w.heap.size w wr) (fun _ i _ => K.length - (intOf i).toNat)
 case atStart => exact ⟨0, 1, Nat.zero_le _, rfl, rfl, ⟨fun _ => by simp [countL], fun h => by simp [countL] at h, by omega, by simp [countL]⟩, (brf _ _).alloc mle _⟩
 case round =>
  obtain ⟨wo, rfl⟩ : ∃ wo : World, wo = wr := ⟨_, rfl⟩; obtain ⟨j, N, hj, rfl, rfl, hR, hb⟩ := hrel; have HB := mh hb; have HR := mh hR; have hj0 : (0 : Int) ≤ (j : Int) := inn _; have hct := countL_take K j; have n1 : 1 ≤ N := hR.2.2.1; have n2 : N ≤ 1099511627776 := by have := hR.2.2.2; omega
  clear hR
  by_cases hlt : j < K.length
  ·have hj1 : (j : Int) < (K.length : Int) := by omega
   obtain ⟨e, b, off, k, rfl, rfl, hbl, hc, hv⟩ := (HT.out.below hb).kid hlt; obtain ⟨c0, c1, c2, c3⟩ := hc; have hkb := countL_bd K j hlt; have CS := mh (countL_succ K j hlt); have HK := mh (fun (W : World) (hW : Below wo.heap.size wo W) => IH.out e (by omega) k K[j] W (hv.below hW) (by omega)); clear hv hb
   by_cases hm : N ≤ 40
   ·have HK2 := mh (HK.out _ ((brf _ _).alloc mle (.cells #[I O k.op, I O k.num, I O k.more, .slice k.p k.n k.c] 96)))
    clear HK
    go_wp2_with (first | (go_at_call 180; (with_reducible refine cmo HK2.out ?_); rintro e w1 ⟨M, hM, rfl, hb1⟩; have m1 : 1 ≤ M := hM.2.2.1; have m2 : M ≤ 1099511627776 := (by have := hM.2.2.2; omega); have HM := mh hM; clear hM))
    go_roundw
    case rel => exact ⟨j + 1, N + M, by omega, by go_num, rfl, by rw [CS.out, ← Nat.add_assoc]; exact HR.out.step (by omega) HM.out, bstep mle (balloc mle HB.out _) hb1⟩
    case measure => simp [intOf]; omega
   ·clear HK
    go_wp2
    go_roundw
    case rel => exact ⟨j + 1, N, by omega, by go_num, rfl, by rw [CS.out, ← Nat.add_assoc]; exact HR.out.keep (by omega), balloc mle HB.out _⟩
    case measure => simp [intOf]; omega
  ·obtain rfl : j = K.length := by omega
   rw [List.take_length] at HR; clear hb hct
   go_wp2
   go_ret
   exact ⟨N, HR.out, rfl, HB.out⟩
theorem depth16_any {Q : Nat → Prop} : ∀ (d : Nat) (r : RT) (t : Tm) (w : World), TV Q w d r t → count t ≤ 1099511627776 →
  Calls Tryz.prog 181 #[.agg #[I O r.op, I O r.num, I O r.more, .slice r.p r.n r.c]] w (IntG (depth t : Int) w) := by
 intro d
 induction d using Nat.strongRecOn with
 | _ d ih =>
 intro r t w h hz; obtain ⟨ro, rn, rm, rp, rl, rc⟩ := r; obtain ⟨to_, tn, tm, K⟩ := t; have hat : TmsAt Q w d rp K := h.at_; have hlen : rl = K.length := h.is.n; have hn := hat.len; rw [count_cons] at hz; rw [depth_cons]; have hdc := depthL_le_count K; simp only; subst hlen; have HT := mh hat; have IH := mh ih; clear h ih hat
 go_enter Tryz.func181, Tryz.ntmps181
 go_wp2
 go_loopw [3, 9] (fun n i wr => ∃ j : Nat, j ≤ K.length ∧ i = I O j ∧ n = I O (depthL (K.take j) : Int) ∧ Below w.heap.size w wr) (fun _ i _ => K.length - (intOf i).toNat)
 case atStart => exact ⟨0, Nat.zero_le _, rfl, rfl, (brf _ _).alloc mle _⟩
 case round =>
  obtain ⟨wo, rfl⟩ : ∃ wo : World, wo = wr := ⟨_, rfl⟩; obtain ⟨j, hj, rfl, rfl, hb⟩ := hrel; have HB := mh hb; have hj0 : (0 : Int) ≤ (j : Int) := inn _
  by_cases hlt : j < K.length
  ·have hj1 : (j : Int) < (K.length : Int) := by omega
   obtain ⟨e, b, off, k, rfl, rfl, hbl, hc, hv⟩ := (HT.out.below hb).kid hlt; obtain ⟨c0, c1, c2, c3⟩ := hc; have hkb := countL_bd K j hlt; have CS := mh (depthL_succ K j hlt); have HK := mh (IH.out e (by omega) k K[j] _ (hv.below ((brf _ _).alloc mle (.cells #[I O k.op, I O k.num, I O k.more, .slice k.p k.n k.c] 96))) (by omega)); clear hv hb; obtain ⟨D, eD⟩ : ∃ D, depth K[j] = D := ⟨_, rfl⟩; rw [eD] at CS HK; obtain ⟨E, eE⟩ : ∃ E, depthL (K.take j) = E := ⟨_, rfl⟩; rw [eE] at CS ⊢; clear eD eE
   by_cases hm : D ≤ E
   ·have HM := mh (show depthL (K.take (j + 1)) = E by rw [CS.out]; omega)
    have hm1 : ¬ (E : Int) < (D : Int) := by omega
    go_wp2_with (first | (go_at_call 181; (with_reducible refine cmo HK.out ?_); rintro e w1 ⟨rfl, hb1⟩))
    go_roundw
    case rel => exact ⟨j + 1, by omega, by go_num, by rw [HM.out]; first | rfl | (congr 1; omega), bstep mle (balloc mle HB.out _) hb1⟩
    case measure => simp [intOf]; omega
   ·have HM := mh (show depthL (K.take (j + 1)) = D by rw [CS.out]; omega)
    have hm1 : (E : Int) < (D : Int) := by omega
    go_wp2_with (first | (go_at_call 181; (with_reducible refine cmo HK.out ?_); rintro e w1 ⟨rfl, hb1⟩))
    go_roundw
    case rel => exact ⟨j + 1, by omega, by go_num, by rw [HM.out]; first | rfl | (congr 1; omega), bstep mle (balloc mle HB.out _) hb1⟩
    case measure => simp [intOf]; omega
  ·obtain rfl : j = K.length := by omega
   rw [List.take_length]; clear hb
   go_wp2
   go_ret
   exact ⟨ret_int (by omega), HB.out⟩
theorem refsingle_any (n : Int) (w : World) : Calls Tryz.prog 212 #[I O n] w fun e w' => e = .returned (.bool (single n)) ∧ w = w' := by
 by_cases h1 : n = 1
 ·subst h1; go_enter Tryz.func212, Tryz.ntmps212; go_wp2; go_ret; exact ⟨rfl, rfl⟩
 by_cases h2 : n = 2
 ·subst h2; go_enter Tryz.func212, Tryz.ntmps212; go_wp2; go_ret; exact ⟨rfl, rfl⟩
 by_cases h4 : n = 4
 ·subst h4; go_enter Tryz.func212, Tryz.ntmps212; go_wp2; go_ret; exact ⟨rfl, rfl⟩
 by_cases h8 : n = 8
 ·subst h8; go_enter Tryz.func212, Tryz.ntmps212; go_wp2; go_ret; exact ⟨rfl, rfl⟩
 by_cases h16 : n = 16
 ·subst h16; go_enter Tryz.func212, Tryz.ntmps212; go_wp2; go_ret; exact ⟨rfl, rfl⟩
 have e : single n = false := by
  unfold single; simp only [Bool.or_eq_false_iff, beq_eq_false_iff_ne]; omega
 rw [e]; clear e; have g1 : (n == 1) = false := beq_eq_false_iff_ne.2 h1; have g2 : (n == 2) = false := beq_eq_false_iff_ne.2 h2; have g4 : (n == 4) = false := beq_eq_false_iff_ne.2 h4; have g8 : (n == 8) = false := beq_eq_false_iff_ne.2 h8; have g16 : (n == 16) = false := beq_eq_false_iff_ne.2 h16
 go_enter Tryz.func212, Tryz.ntmps212
 go_wp2
 go_ret
 exact ⟨rfl, rfl⟩
def okT (o n : Int) (k : Nat) : Bool :=
 if o = 1 then n == 0 else if o = 2 then decide (0 ≤ n) && decide (n < 40) else if o = 3 then decide (0 ≤ n) && decide (n ≤ 40) else if o = 4 then single n
 else if o = 5 then decide (0 ≤ n) && decide (n ≤ 15) else if o = 6 then decide (2 ≤ n) && decide (n ≤ 10) else if o = 7 then decide (1 ≤ n) && decide (n ≤ 10) else if o = 8 then decide (1 ≤ n) && decide (n ≤ 10)
 else if o = 9 ∨ o = 10 then n == 0 && decide (1 ≤ k) else if o = 11 then n == 0 else false
def moreT (o m : Int) : Bool := if o = 7 then single m else m == 0
def kidT (o : Int) (k : Nat) : Int := if o = 9 ∨ o = 10 then (k : Int) else if o = 11 then 1 else 0
theorem self_ref (o n m : Int) (k : Nat) : selfB o n m k = (okT o n k && (moreT o m && decide ((k : Int) = kidT o k))) := by
 by_cases h : 1 ≤ o ∧ o ≤ 11
 ·have : o = 1 ∨ o = 2 ∨ o = 3 ∨ o = 4 ∨ o = 5 ∨ o = 6 ∨ o = 7 ∨ o = 8 ∨ o = 9 ∨ o = 10 ∨ o = 11 := by omega
  have e0 : (k == 0) = decide ((k : Int) = 0) := by rw [Bool.eq_iff_iff, beq_iff_eq, decide_eq_true_eq]; omega
  have e1 : (k == 1) = decide ((k : Int) = 1) := by rw [Bool.eq_iff_iff, beq_iff_eq, decide_eq_true_eq]; omega
  have e39 : decide (n ≤ 39) = decide (n < 40) := by rw [decide_eq_decide]; omega
  have ek : decide ((k : Int) = (k : Int)) = true := dqt rfl
  rcases this with rfl | rfl | rfl | rfl | rfl | rfl | rfl | rfl | rfl | rfl | rfl <;> simp [selfB, okT, moreT, kidT, e0, e1, e39, Bool.and_assoc, Bool.and_comm, Bool.and_left_comm]
 ·have e1 : selfB o n m k = false := by
   have := self_out (o := o) (n := n) (m := m) (k := k) (by omega); unfold selfB at this ⊢; rw [if_neg (by omega), if_neg (by omega), if_neg (by omega), if_neg (by omega), if_neg (by omega), if_neg (by omega), if_neg (by omega), if_neg (by omega), if_neg (by omega), if_neg (by omega)]
  have e2 : okT o n k = false := by
   unfold okT; rw [if_neg (by omega), if_neg (by omega), if_neg (by omega), if_neg (by omega), if_neg (by omega), if_neg (by omega), if_neg (by omega), if_neg (by omega), if_neg (by omega), if_neg (by omega)]
  rw [e1, e2, Bool.false_and]
theorem form_cons (o n m : Int) (K : List Tm) : form (.mk o n m K) = (selfB o n m K.length && formL K) := by rw [form]
theorem formL_take {K : List Tm} {j : Nat} (h : j < K.length) (h2 : formL (K.take j) = true) (h3 : form K[j] = true) : formL (K.take (j + 1)) = true := by
 rw [formL_iff] at *; intro k hk; rw [tsg h] at hk
 rcases List.mem_append.1 hk with hk | hk
 ·exact h2 k hk
 ·obtain rfl := List.mem_singleton.1 hk; exact h3
theorem formL_bad {K : List Tm} {j : Nat} (h : j < K.length) (h3 : form K[j] = false) : formL K = false := by
 rw [Bool.eq_false_iff]; intro e; rw [formL_iff] at e; rw [e _ (List.getElem_mem h)] at h3
 cases h3
structure Bx (w wx : World) (r : RT) : Prop where
 below : Below w.heap.size w wx
 cells : TCells wx w.heap.size 0 r
 lt : w.heap.size < wx.heap.size
theorem Bx.drewN {w wx : World} {r : RT} (h : Bx w wx r) (k : Nat) : Bx w (wx.drewN k) r :=
 ⟨h.below.trans ((drewN_below _ _).mono h.below.size), ⟨h.cells.c0, h.cells.c1, h.cells.c2, h.cells.c3⟩, h.lt⟩
theorem Bx.box (w : World) (r : RT) (T : TypeId) : Bx w (w.alloc (.cells #[I O r.op, I O r.num, I O r.more, .slice r.p r.n r.c] T)) r :=
 ⟨(brf _ _).alloc mle _, ⟨cwn _ _ _ 0, cwn _ _ _ 1, cwn _ _ _ 2, cwn _ _ _ 3⟩, by simp⟩
theorem form_any {Q : Nat → Prop} : ∀ (d : Nat) (r : RT) (t : Tm) (w : World), TV Q w d r t →
  Calls Tryz.prog 182 #[.agg #[I O r.op, I O r.num, I O r.more, .slice r.p r.n r.c]] w (BoolG (form t) w) := by
 intro d
 induction d using Nat.strongRecOn with
 | _ d ih =>
 intro r t w h; obtain ⟨o, n, m, p, l, c⟩ := r; obtain ⟨t0, tn, tm, K⟩ := t; obtain rfl : o = t0 := h.is.op; obtain rfl : n = tn := h.is.num; obtain rfl : m = tm := h.is.more; have hat : TmsAt Q w d p K := h.at_; have hlen : l = K.length := h.is.n; have hn := hat.len; simp only; subst hlen; have SR := mh ((form_cons o n m K).trans (by rw [self_ref])); have HT := mh hat; have IH := mh ih; have SN := mh (fun x W => refsingle_any x W); obtain ⟨V, eV⟩ : ∃ x, form (.mk o n m K) = x := ⟨_, rfl⟩; rw [eV] at SR ⊢; clear h ih hat eV
 go_enter Tryz.func182, Tryz.ntmps182
 go_wp2_with fail
 go_quiet (fail)
 have BX := mh ((Bx.box w ⟨o, n, m, p, K.length, c⟩ 96).drewN nq); simp only at BX
 go_upto_block 0 with (fail)
 go_cut [3, 4, 5] (fun s3 s4 s5 wx => s3 = I O (kidT o K.length) ∧ s4 = .bool (moreT o m) ∧ s5 = .bool (okT o n K.length) ∧ Bx w wx ⟨o, n, m, p, K.length, c⟩)
 case first =>
  by_cases h1 : o = 1
  ·subst h1
   go_wp2_with (first | (go_at_call 212; (with_reducible refine cmo (SN.out _ _) ?_); rintro e w1 ⟨rfl, rfl⟩))
   go_meet
   exact ⟨rfl, rfl, by first | rfl | (simp [okT, *]; done) | (simp [okT]; omega), by first | exact BX.out | exact BX.out.drewN _⟩
  by_cases h2 : o = 2
  ·subst h2
   by_cases g1 : n < 0
   ·have g3 : decide (0 ≤ n) = false := dqf (by omega)
    go_wp2_with (first | (go_at_call 212; (with_reducible refine cmo (SN.out _ _) ?_); rintro e w1 ⟨rfl, rfl⟩))
    go_meet
    exact ⟨rfl, rfl, by first | rfl | (simp [okT, g3]; done) | (simp [okT]; omega), by first | exact BX.out | exact BX.out.drewN _⟩
   by_cases g2 : 39 < n
   ·have g3 : decide (n < 40) = false := dqf (by omega)
    go_wp2_with (first | (go_at_call 212; (with_reducible refine cmo (SN.out _ _) ?_); rintro e w1 ⟨rfl, rfl⟩))
    go_meet
    exact ⟨rfl, rfl, by first | rfl | (simp [okT, g3]; done) | (simp [okT]; omega), by first | exact BX.out | exact BX.out.drewN _⟩
   ·have g3 : decide (0 ≤ n) = true := dqt (by omega)
    have g4 : decide (n < 40) = true := dqt (by omega)
    go_wp2_with (first | (go_at_call 212; (with_reducible refine cmo (SN.out _ _) ?_); rintro e w1 ⟨rfl, rfl⟩))
    go_meet
    exact ⟨rfl, rfl, by first | rfl | (simp [okT, g3, g4]; done) | (simp [okT]; omega), by first | exact BX.out | exact BX.out.drewN _⟩
  by_cases h3 : o = 3
  ·subst h3
   by_cases g1 : n < 0
   ·have g3 : decide (0 ≤ n) = false := dqf (by omega)
    go_wp2_with (first | (go_at_call 212; (with_reducible refine cmo (SN.out _ _) ?_); rintro e w1 ⟨rfl, rfl⟩))
    go_meet
    exact ⟨rfl, rfl, by first | rfl | (simp [okT, g3]; done) | (simp [okT]; omega), by first | exact BX.out | exact BX.out.drewN _⟩
   by_cases g2 : 40 < n
   ·have g3 : decide (n ≤ 40) = false := dqf (by omega)
    go_wp2_with (first | (go_at_call 212; (with_reducible refine cmo (SN.out _ _) ?_); rintro e w1 ⟨rfl, rfl⟩))
    go_meet
    exact ⟨rfl, rfl, by first | rfl | (simp [okT, g3]; done) | (simp [okT]; omega), by first | exact BX.out | exact BX.out.drewN _⟩
   ·have g3 : decide (0 ≤ n) = true := dqt (by omega)
    have g4 : decide (n ≤ 40) = true := dqt (by omega)
    go_wp2_with (first | (go_at_call 212; (with_reducible refine cmo (SN.out _ _) ?_); rintro e w1 ⟨rfl, rfl⟩))
    go_meet
    exact ⟨rfl, rfl, by first | rfl | (simp [okT, g3, g4]; done) | (simp [okT]; omega), by first | exact BX.out | exact BX.out.drewN _⟩
  by_cases h4 : o = 4
  ·subst h4
   go_wp2_with (first | (go_at_call 212; (with_reducible refine cmo (SN.out _ _) ?_); rintro e w1 ⟨rfl, rfl⟩))
   go_meet
   exact ⟨rfl, rfl, by first | rfl | (simp [okT, *]; done) | (simp [okT]; omega), by first | exact BX.out | exact BX.out.drewN _⟩
  by_cases h5 : o = 5
  ·subst h5
   by_cases g1 : n < 0
   ·have g3 : decide (0 ≤ n) = false := dqf (by omega)
    go_wp2_with (first | (go_at_call 212; (with_reducible refine cmo (SN.out _ _) ?_); rintro e w1 ⟨rfl, rfl⟩))
    go_meet
    exact ⟨rfl, rfl, by first | rfl | (simp [okT, g3]; done) | (simp [okT]; omega), by first | exact BX.out | exact BX.out.drewN _⟩
   by_cases g2 : 15 < n
   ·have g3 : decide (n ≤ 15) = false := dqf (by omega)
    go_wp2_with (first | (go_at_call 212; (with_reducible refine cmo (SN.out _ _) ?_); rintro e w1 ⟨rfl, rfl⟩))
    go_meet
    exact ⟨rfl, rfl, by first | rfl | (simp [okT, g3]; done) | (simp [okT]; omega), by first | exact BX.out | exact BX.out.drewN _⟩
   ·have g3 : decide (0 ≤ n) = true := dqt (by omega)
    have g4 : decide (n ≤ 15) = true := dqt (by omega)
    go_wp2_with (first | (go_at_call 212; (with_reducible refine cmo (SN.out _ _) ?_); rintro e w1 ⟨rfl, rfl⟩))
    go_meet
    exact ⟨rfl, rfl, by first | rfl | (simp [okT, g3, g4]; done) | (simp [okT]; omega), by first | exact BX.out | exact BX.out.drewN _⟩
  by_cases h6 : o = 6
  ·subst h6
   by_cases g1 : n < 2
   ·have g3 : decide (2 ≤ n) = false := dqf (by omega)
    go_wp2_with (first | (go_at_call 212; (with_reducible refine cmo (SN.out _ _) ?_); rintro e w1 ⟨rfl, rfl⟩))
    go_meet
    exact ⟨rfl, rfl, by first | rfl | (simp [okT, g3]; done) | (simp [okT]; omega), by first | exact BX.out | exact BX.out.drewN _⟩
   by_cases g2 : 10 < n
   ·have g3 : decide (n ≤ 10) = false := dqf (by omega)
    go_wp2_with (first | (go_at_call 212; (with_reducible refine cmo (SN.out _ _) ?_); rintro e w1 ⟨rfl, rfl⟩))
    go_meet
    exact ⟨rfl, rfl, by first | rfl | (simp [okT, g3]; done) | (simp [okT]; omega), by first | exact BX.out | exact BX.out.drewN _⟩
   ·have g3 : decide (2 ≤ n) = true := dqt (by omega)
    have g4 : decide (n ≤ 10) = true := dqt (by omega)
    go_wp2_with (first | (go_at_call 212; (with_reducible refine cmo (SN.out _ _) ?_); rintro e w1 ⟨rfl, rfl⟩))
    go_meet
    exact ⟨rfl, rfl, by first | rfl | (simp [okT, g3, g4]; done) | (simp [okT]; omega), by first | exact BX.out | exact BX.out.drewN _⟩
  by_cases h7 : o = 7
  ·subst h7
   by_cases g1 : n < 1
   ·have g3 : decide (1 ≤ n) = false := dqf (by omega)
    have g5 : decide (n ≥ 1) = false := dqf (by omega); obtain ⟨W0, eW⟩ : ∃ W0, ((w.alloc (.cells #[I O 7, I O n, I O m, .slice p K.length c] 96))).drewN nq = W0 := ⟨_, rfl⟩; rw [eW] at BX ⊢; clear eW; obtain ⟨z0, z1, z2, z3⟩ := BX.out.cells; rw [Nat.zero_add] at z1 z2 z3
    go_wp2_with fail
    go_quiet ((go_at_call 212; exact Calls.quiet_of_same (Calls.turn (SN.out _ _))))
    go_wp2
    go_meet
    exact ⟨rfl, rfl, by first | rfl | (simp [okT, g3]; done) | (simp [okT]; omega), by first | exact BX.out | exact BX.out.drewN _⟩
   by_cases g2 : 10 < n
   ·have g3 : decide (n ≤ 10) = false := dqf (by omega)
    have g5 : decide (1 ≤ n) = true := dqt (by omega); obtain ⟨W0, eW⟩ : ∃ W0, ((w.alloc (.cells #[I O 7, I O n, I O m, .slice p K.length c] 96))).drewN nq = W0 := ⟨_, rfl⟩; rw [eW] at BX ⊢; clear eW; obtain ⟨z0, z1, z2, z3⟩ := BX.out.cells; rw [Nat.zero_add] at z1 z2 z3
    go_wp2_with fail
    go_quiet ((go_at_call 212; exact Calls.quiet_of_same (Calls.turn (SN.out _ _))))
    go_wp2
    go_meet
    exact ⟨rfl, rfl, by first | rfl | (simp [okT, g3]; done) | (simp [okT]; omega), by first | exact BX.out | exact BX.out.drewN _⟩
   ·have g3 : decide (1 ≤ n) = true := dqt (by omega)
    have g4 : decide (n ≤ 10) = true := dqt (by omega); obtain ⟨W0, eW⟩ : ∃ W0, ((w.alloc (.cells #[I O 7, I O n, I O m, .slice p K.length c] 96))).drewN nq = W0 := ⟨_, rfl⟩; rw [eW] at BX ⊢; clear eW; obtain ⟨z0, z1, z2, z3⟩ := BX.out.cells; rw [Nat.zero_add] at z1 z2 z3
    go_wp2_with fail
    go_quiet ((go_at_call 212; exact Calls.quiet_of_same (Calls.turn (SN.out _ _))))
    go_wp2
    go_meet
    exact ⟨rfl, rfl, by first | rfl | (simp [okT, g3, g4]; done) | (simp [okT]; omega), by first | exact BX.out | exact BX.out.drewN _⟩
  by_cases h8 : o = 8
  ·subst h8
   by_cases g1 : n < 1
   ·have g3 : decide (1 ≤ n) = false := dqf (by omega)
    go_wp2_with (first | (go_at_call 212; (with_reducible refine cmo (SN.out _ _) ?_); rintro e w1 ⟨rfl, rfl⟩))
    go_meet
    exact ⟨rfl, rfl, by first | rfl | (simp [okT, g3]; done) | (simp [okT]; omega), by first | exact BX.out | exact BX.out.drewN _⟩
   by_cases g2 : 10 < n
   ·have g3 : decide (n ≤ 10) = false := dqf (by omega)
    go_wp2_with (first | (go_at_call 212; (with_reducible refine cmo (SN.out _ _) ?_); rintro e w1 ⟨rfl, rfl⟩))
    go_meet
    exact ⟨rfl, rfl, by first | rfl | (simp [okT, g3]; done) | (simp [okT]; omega), by first | exact BX.out | exact BX.out.drewN _⟩
   ·have g3 : decide (1 ≤ n) = true := dqt (by omega)
    have g4 : decide (n ≤ 10) = true := dqt (by omega)
    go_wp2_with (first | (go_at_call 212; (with_reducible refine cmo (SN.out _ _) ?_); rintro e w1 ⟨rfl, rfl⟩))
    go_meet
    exact ⟨rfl, rfl, by first | rfl | (simp [okT, g3, g4]; done) | (simp [okT]; omega), by first | exact BX.out | exact BX.out.drewN _⟩
  by_cases h9 : o = 9
  ·subst h9
   by_cases g1 : n = 0
   rotate_left
   ·have g3 : (n == 0) = false := beq_eq_false_iff_ne.2 g1
    go_wp2_with fail
    go_quiet (fail)
    go_wp2
    go_meet
    exact ⟨rfl, rfl, by first | rfl | (simp [okT, g3]; done) | (simp [okT]; omega), by first | exact BX.out | exact BX.out.drewN _⟩
   have g3 : (n == 0) = true := beq_iff_eq.2 g1
   by_cases g2 : K.length = 0
   ·have g4 : decide ((0 : Int) < (K.length : Int)) = false := dqf (by omega)
    have g5 : decide (0 < K.length) = false := dqf (by omega); have g6 : decide (1 ≤ K.length) = false := dqf (by omega); clear g1 g2
    go_wp2_with fail
    go_quiet (fail)
    go_wp2
    go_meet
    exact ⟨rfl, rfl, by first | rfl | (simp [okT, g3, g6]; done) | (simp [okT]; omega), by first | exact BX.out | exact BX.out.drewN _⟩
   ·have g4 : decide ((0 : Int) < (K.length : Int)) = true := dqt (by omega)
    have g5 : decide (0 < K.length) = true := dqt (by omega); have g6 : decide (1 ≤ K.length) = true := dqt (by omega); clear g1 g2
    go_wp2_with fail
    go_quiet (fail)
    go_wp2
    go_meet
    exact ⟨rfl, rfl, by first | rfl | (simp [okT, g3, g6]; done) | (simp [okT]; omega), by first | exact BX.out | exact BX.out.drewN _⟩
  by_cases h10 : o = 10
  ·subst h10
   by_cases g1 : n = 0
   rotate_left
   ·have g3 : (n == 0) = false := beq_eq_false_iff_ne.2 g1
    go_wp2_with fail
    go_quiet (fail)
    go_wp2
    go_meet
    exact ⟨rfl, rfl, by first | rfl | (simp [okT, g3]; done) | (simp [okT]; omega), by first | exact BX.out | exact BX.out.drewN _⟩
   have g3 : (n == 0) = true := beq_iff_eq.2 g1
   by_cases g2 : K.length = 0
   ·have g4 : decide ((0 : Int) < (K.length : Int)) = false := dqf (by omega)
    have g5 : decide (0 < K.length) = false := dqf (by omega); have g6 : decide (1 ≤ K.length) = false := dqf (by omega); clear g1 g2
    go_wp2_with fail
    go_quiet (fail)
    go_wp2
    go_meet
    exact ⟨rfl, rfl, by first | rfl | (simp [okT, g3, g6]; done) | (simp [okT]; omega), by first | exact BX.out | exact BX.out.drewN _⟩
   ·have g4 : decide ((0 : Int) < (K.length : Int)) = true := dqt (by omega)
    have g5 : decide (0 < K.length) = true := dqt (by omega); have g6 : decide (1 ≤ K.length) = true := dqt (by omega); clear g1 g2
    go_wp2_with fail
    go_quiet (fail)
    go_wp2
    go_meet
    exact ⟨rfl, rfl, by first | rfl | (simp [okT, g3, g6]; done) | (simp [okT]; omega), by first | exact BX.out | exact BX.out.drewN _⟩
  by_cases h11 : o = 11
  ·subst h11
   go_wp2_with (first | (go_at_call 212; (with_reducible refine cmo (SN.out _ _) ?_); rintro e w1 ⟨rfl, rfl⟩))
   go_meet
   exact ⟨rfl, rfl, by first | rfl | (simp [okT, *]; done) | (simp [okT]; omega), by first | exact BX.out | exact BX.out.drewN _⟩
  have g1 : (o == 1) = false := beq_eq_false_iff_ne.2 h1; have ok : okT o n K.length = false := by
   unfold okT; rw [if_neg h1, if_neg h2, if_neg h3, if_neg h4, if_neg h5, if_neg h6, if_neg h7, if_neg h8, if_neg (by omega), if_neg h11]
  have mo : moreT o m = (m == 0) := by unfold moreT; rw [if_neg h7]
  have ki : kidT o K.length = 0 := by unfold kidT; rw [if_neg (by omega), if_neg h11]
  have OK := mh ok; have MO := mh mo; have KI := mh ki; clear ok mo ki
  go_wp2
  go_meet
  exact ⟨by rw [KI.out], by rw [MO.out], by rw [OK.out], BX.out⟩
 case rest =>
  obtain ⟨rfl, rfl, rfl, hbx⟩ := hcut; clear BX SN; obtain ⟨A, eA⟩ : ∃ x, okT o n K.length = x := ⟨_, rfl⟩; obtain ⟨M, eM⟩ : ∃ x, moreT o m = x := ⟨_, rfl⟩; obtain ⟨N, eN⟩ : ∃ x, kidT o K.length = x := ⟨_, rfl⟩; rw [eA, eM, eN] at SR; rw [eA, eM, eN]; clear eA eM eN; have HB := mh hbx.below; have HT2 := mh (HT.out.below hbx.below); obtain ⟨z0, z1, z2, z3⟩ := hbx.cells; rw [Nat.zero_add] at z1 z2 z3; simp only at z0 z1 z2 z3; clear hbx
  cases A
  ·have HV := mh (show V = false by rw [SR.out, Bool.false_and, Bool.false_and])
   clear SR
   go_wp2
   go_ret
   exact ⟨ret_bool HV.out.symm, HB.out⟩
  cases M
  ·have HV := mh (show V = false by rw [SR.out, Bool.false_and, Bool.and_false, Bool.false_and])
   clear SR
   go_wp2
   go_ret
   exact ⟨ret_bool HV.out.symm, HB.out⟩
  by_cases hk : (K.length : Int) = N
  rotate_left
  ·have HV := mh (show V = false by rw [SR.out, dqf hk, Bool.and_false, Bool.and_false, Bool.false_and])
   have hk1 : ((K.length : Int) != N) = true := bne_iff_ne.2 hk; clear SR
   go_wp2
   go_ret
   exact ⟨ret_bool HV.out.symm, HB.out⟩
  subst hk; have SV := mh (show V = formL K by rw [SR.out, dqt rfl, Bool.and_true, Bool.and_true, Bool.true_and]); clear SR
  go_wp2
  go_loopw [122] (fun i wr => ∃ j : Nat, j ≤ K.length ∧ i = I O j ∧ formL (K.take j) = true ∧ Below w.heap.size w wr) (fun i _ => K.length - (intOf i).toNat)
  case atStart => exact ⟨0, Nat.zero_le _, rfl, rfl, HB.out⟩
  case round =>
   obtain ⟨wo, rfl⟩ : ∃ wo : World, wo = wr := ⟨_, rfl⟩; obtain ⟨j, hj, rfl, hf, hb⟩ := hrel; have HF := mh hf; have HB2 := mh hb; have hj0 : (0 : Int) ≤ (j : Int) := inn _
   by_cases hlt : j < K.length
   ·have hj1 : (j : Int) < (K.length : Int) := by omega
    obtain ⟨e, b, off, k, rfl, rfl, hbl, hcs, hv⟩ := (HT.out.below hb).kid hlt; obtain ⟨c0, c1, c2, c3⟩ := hcs; have HK := mh (IH.out e (by omega) k K[j] _ (hv.below ((brf _ _).alloc mle (.cells #[I O k.op, I O k.num, I O k.more, .slice k.p k.n k.c] 96)))); have HS := mh (fun h => formL_take hlt HF.out h); have HX := mh (fun h => formL_bad hlt h); obtain ⟨B, eB⟩ : ∃ x, form K[j] = x := ⟨_, rfl⟩; rw [eB] at HK HS HX; clear hv hb hf eB
    cases B
    ·have HV := mh (SV.out.trans (HX.out rfl))
     go_wp2_with (first | (go_at_call 182; (with_reducible refine cmo HK.out ?_); rintro e w1 ⟨rfl, hb1⟩))
     go_ret
     exact ⟨ret_bool HV.out.symm, bstep mle (balloc mle HB2.out _) hb1⟩
    ·have HS2 := mh (HS.out rfl)
     go_wp2_with (first | (go_at_call 182; (with_reducible refine cmo HK.out ?_); rintro e w1 ⟨rfl, hb1⟩))
     go_roundw
     case rel => exact ⟨j + 1, by omega, by go_num, HS2.out, bstep mle (balloc mle HB2.out _) hb1⟩
     case measure => simp [intOf]; omega
   ·obtain rfl : j = K.length := by omega
    have HV := mh (show V = true by rw [SV.out]; rw [List.take_length] at hf; exact hf); clear hb hf
    go_wp2
    go_ret
    exact ⟨ret_bool HV.out.symm, HB2.out⟩
theorem refcheck16_any {Q : Nat → Prop} (d : Nat) (r : RT) (t : Tm) (w : World) (h : TV Q w d r t) (hz : count t ≤ 1099511627776) :
  Calls Tryz.prog 137 #[.agg #[I O r.op, I O r.num, I O r.more, .slice r.p r.n r.c]] w (IntG (chkT t) w) := by
 have B0 := Bx.box w r 96; have CT := mh (count16r_any d r t _ (h.below B0.below) hz); have DP := mh (fun (W : World) (hW : Bx w W r) => depth16_any d r t W (h.below hW.below) hz); have FM := mh (fun (W : World) (hW : Bx w W r) => form_any d r t W (h.below hW.below)); have HX := mh B0; have hdc := depth_le_count t; have BN := mh (fun (W W' : World) (hW : Bx w W r) (hb : Below W.heap.size W W') => show Bx w W' r from ⟨bstep mle hW.below hb, ⟨(hb.cell (p := ⟨w.heap.size, 0, none⟩) hW.lt).trans hW.cells.c0, (hb.cell (p := ⟨w.heap.size, 0 + 1, none⟩) hW.lt).trans hW.cells.c1, (hb.cell (p := ⟨w.heap.size, 0 + 2, none⟩) hW.lt).trans hW.cells.c2, (hb.cell (p := ⟨w.heap.size, 0 + 3, none⟩) hW.lt).trans hW.cells.c3⟩, nll hW.lt hb.size⟩); have CR := mh (show chkT t = if 40 < count t then 1 else if 8 < depth t ∨ form t = false then 16 else 0 from rfl); obtain ⟨V, eV⟩ : ∃ x, chkT t = x := ⟨_, rfl⟩; rw [eV] at CR ⊢; obtain ⟨D, eD⟩ : ∃ x, depth t = x := ⟨_, rfl⟩; rw [eD] at CR DP hdc; obtain ⟨B, eB⟩ : ∃ x, form t = x := ⟨_, rfl⟩; rw [eB] at CR FM; clear h B0 eV eD eB
 by_cases h1 : 40 < count t
 ·have HV := mh (show V = 1 by rw [CR.out, if_pos h1])
  clear CR
  go_enter Tryz.func137, Tryz.ntmps137
  go_wp2_with (first | ((go_at_call 180; (with_reducible refine cmo CT.out ?_); rintro e w1 ⟨N, hN, rfl, hb1⟩; have n1 := hN.1; have n2 := hN.2.1; have HX1 := mh (BN.out _ _ HX.out hb1); have DP1 := mh (DP.out _ HX1.out); obtain ⟨k0, k1, k2, k3⟩ := HX1.out.cells; rw [Nat.zero_add] at k1 k2 k3; clear hN hb1); have n3 : ¬ N ≤ 40 := (by have := n2 h1; omega); have n4 : 40 < N := (by omega); clear n1 n2))
  go_ret
  exact ⟨ret_int HV.out.symm, HX1.out.below⟩
 by_cases h2 : 8 < D
 ·have HV := mh (show V = 16 by rw [CR.out, if_neg h1, if_pos (.inl h2)])
  clear CR
  go_enter Tryz.func137, Tryz.ntmps137
  go_wp2_with (first | ((go_at_call 180; (with_reducible refine cmo CT.out ?_); rintro e w1 ⟨N, hN, rfl, hb1⟩; have n1 := hN.1; have n2 := hN.2.1; have HX1 := mh (BN.out _ _ HX.out hb1); have DP1 := mh (DP.out _ HX1.out); obtain ⟨k0, k1, k2, k3⟩ := HX1.out.cells; rw [Nat.zero_add] at k1 k2 k3; clear hN hb1); have n3 : N ≤ 40 := (by have := n1 (by omega); omega); clear n1 n2) | (go_at_call 181; (with_reducible refine cmo DP1.out ?_); rintro e w2 ⟨rfl, hb2⟩; have HX2 := mh (BN.out _ _ HX1.out hb2); have FM2 := mh (FM.out _ HX2.out); obtain ⟨j0, j1, j2, j3⟩ := HX2.out.cells; rw [Nat.zero_add] at j1 j2 j3; clear hb2))
  go_ret
  exact ⟨ret_int HV.out.symm, HX2.out.below⟩
 cases B
 ·have HV := mh (show V = 16 by rw [CR.out, if_neg h1, if_pos (.inr rfl)])
  clear CR
  go_enter Tryz.func137, Tryz.ntmps137
  go_wp2_with (first | ((go_at_call 180; (with_reducible refine cmo CT.out ?_); rintro e w1 ⟨N, hN, rfl, hb1⟩; have n1 := hN.1; have n2 := hN.2.1; have HX1 := mh (BN.out _ _ HX.out hb1); have DP1 := mh (DP.out _ HX1.out); obtain ⟨k0, k1, k2, k3⟩ := HX1.out.cells; rw [Nat.zero_add] at k1 k2 k3; clear hN hb1); have n3 : N ≤ 40 := (by have := n1 (by omega); omega); clear n1 n2) | (go_at_call 181; (with_reducible refine cmo DP1.out ?_); rintro e w2 ⟨rfl, hb2⟩; have HX2 := mh (BN.out _ _ HX1.out hb2); have FM2 := mh (FM.out _ HX2.out); obtain ⟨j0, j1, j2, j3⟩ := HX2.out.cells; rw [Nat.zero_add] at j1 j2 j3; clear hb2) | (go_at_call 182; (with_reducible refine cmo FM2.out ?_); rintro e w3 ⟨rfl, hb3⟩; have HX3 := mh (BN.out _ _ HX2.out hb3)))
  go_ret
  exact ⟨ret_int HV.out.symm, HX3.out.below⟩
 ·have HV := mh (show V = 0 by rw [CR.out, if_neg h1, if_neg (by rintro (h | h); exact h2 h; cases h)])
  clear CR
  go_enter Tryz.func137, Tryz.ntmps137
  go_wp2_with (first | ((go_at_call 180; (with_reducible refine cmo CT.out ?_); rintro e w1 ⟨N, hN, rfl, hb1⟩; have n1 := hN.1; have n2 := hN.2.1; have HX1 := mh (BN.out _ _ HX.out hb1); have DP1 := mh (DP.out _ HX1.out); obtain ⟨k0, k1, k2, k3⟩ := HX1.out.cells; rw [Nat.zero_add] at k1 k2 k3; clear hN hb1); have n3 : N ≤ 40 := (by have := n1 (by omega); omega); clear n1 n2) | (go_at_call 181; (with_reducible refine cmo DP1.out ?_); rintro e w2 ⟨rfl, hb2⟩; have HX2 := mh (BN.out _ _ HX1.out hb2); have FM2 := mh (FM.out _ HX2.out); obtain ⟨j0, j1, j2, j3⟩ := HX2.out.cells; rw [Nat.zero_add] at j1 j2 j3; clear hb2) | (go_at_call 182; (with_reducible refine cmo FM2.out ?_); rintro e w3 ⟨rfl, hb3⟩; have HX3 := mh (BN.out _ _ HX2.out hb3)))
  go_ret
  exact ⟨ret_int HV.out.symm, HX3.out.below⟩
end Go.Proofs.YtmlfcpglhipjgaaGreat
