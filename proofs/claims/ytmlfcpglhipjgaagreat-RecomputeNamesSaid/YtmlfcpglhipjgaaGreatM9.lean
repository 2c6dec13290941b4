/-
  PACKED (pack8.py): what is needed of the texts T5.
-/
import Derived.Test.YtmlfcpglhipjgaaGreatM8
set_option maxHeartbeats 8000000
open Go.Value renaming int → I
open Go.IntKind renaming i64 → O
namespace Go.Proofs.YtmlfcpglhipjgaaGreat
open Go.RowKit Te
theorem hasT_mark (o : Int) : (o = 4 → hasT o = true) ∧ (o = 7 → hasT o = true) := by
 constructor <;> (rintro rfl; rfl)
theorem right_succ {Q : Nat → Prop} {D : Nat} (hD : D ≤ 1000) (IH : RightAt Q D) : RightAt Q (D + 1) := by
 intro d r t w h; obtain ⟨o, n, m, p, l, c⟩ := r; obtain ⟨to_, tn, tm, K⟩ := t; obtain rfl : o = to_ := h.is.op; obtain rfl : n = tn := h.is.num; obtain rfl : m = tm := h.is.more; have hat : TmsAt Q w d p K := h.at_; have hlen : l = K.length := h.is.n; have hn := hat.len; have eD : ((D + 1 : Nat) : Int) = (D : Int) + 1 := by omega
 rw [eD]; clear eD; simp only; subst hlen; have hD0 : (0 : Int) ≤ (D : Int) := inn _; have hD1 : ((D : Int) + 1 == 0) = false := beq_eq_false_iff_ne.2 (by omega); have hD2 : ¬ (D : Int) + 1 = 0 := by omega
 have F0 := mh (fun (h : (selfB o n m K.length && decide (K.length ≤ 40)) = false) => right_fail (d := D) (o := o) (n := n) (m := m) (K := K) h); have F1 := mh (fun (h : (selfB o n m K.length && decide (K.length ≤ 40)) = true) => (right_self (d := D) (o := o) (n := n) (m := m) (K := K) h).trans (show K.all (rightB D) = !(K.any fun k => !rightB D k) by rw [← List.all_eq_not_any_not])); have LM := mh (fun W => limits_any o W); have KD := mh (fun W => kids_any o W); have SG0 := mh (fun x W => single_any x W); have HM := mh (hasT_mark o); have HO := mh (fun h => self_out (o := o) (n := n) (m := m) (k := K.length) h); have SP0 := mh (fun h1 h2 => self_split (o := o) (n := n) (m := m) (k := K.length) h1 h2); obtain ⟨B, eB⟩ : ∃ x, (selfB o n m K.length && decide (K.length ≤ 40)) = x := ⟨_, rfl⟩; obtain ⟨lo, elo⟩ : ∃ x, lowT o = x := ⟨_, rfl⟩; obtain ⟨hi, ehi⟩ : ∃ x, highT o = x := ⟨_, rfl⟩; obtain ⟨hs, ehs⟩ : ∃ x, hasT o = x := ⟨_, rfl⟩; obtain ⟨le, ele⟩ : ∃ x, leastT o = x := ⟨_, rfl⟩; obtain ⟨mo, emo⟩ : ∃ x, mostT o = x := ⟨_, rfl⟩; obtain ⟨V, eV⟩ : ∃ x, rightB (D + 1) (.mk o n m K) = x := ⟨_, rfl⟩; rw [eB] at F0 F1 HO SP0; rw [elo, ehi, ehs] at LM; rw [ele, emo] at KD; rw [elo, ehi, ehs, ele, emo] at SP0; rw [ehs] at HM; rw [eV] at F0 F1 ⊢; obtain ⟨H, eH⟩ : ∃ x : World, x = (w.alloc (.cells #[I O o, I O n, I O m, .slice p K.length c] 96)).alloc (.cells #[I O ((D : Int) + 1)] 3) := ⟨_, rfl⟩; have HB0 := mh (show Below w.heap.size w ((w.alloc (.cells #[I O o, I O n, I O m, .slice p K.length c] 96)).alloc (.cells #[I O ((D : Int) + 1)] 3)) from ((brf _ _).alloc mle _).alloc (by simp) _); have CF := mh (containsterm_any hD IH d p K c (w.heap.size + 1) _ (hat.below HB0.out) (by rw [show w.heap.size + 1 = (w.alloc (.cells #[I O o, I O n, I O m, .slice p K.length c] 96)).heap.size by simp]; exact cwn _ _ _ 0) (by simp)); obtain ⟨AN, eAN⟩ : ∃ x, (K.any fun k => !rightB D k) = x := ⟨_, rfl⟩; rw [eAN] at CF F1; clear h IH hat eB elo ehi ehs ele emo eV eH eAN
 by_cases h1 : o < 1
 ·have HV := mh (F0.out (HO.out (.inl h1)))
  have SG := SG0
  go_enter Tryz.func178, Tryz.ntmps178
  go_wp2_with (first | (go_at_call 207; (with_reducible refine cmo (LM.out _) ?_); rintro e w1 ⟨rfl, rfl⟩) | (go_at_call 208; (with_reducible refine cmo (KD.out _) ?_); rintro e w1 ⟨rfl, rfl⟩) | (go_at_call 209; (with_reducible refine cmo (SG.out _) ?_); rintro e w1 ⟨rfl, rfl⟩))
  go_ret
  exact ⟨by rw [HV.out]; rfl, by go_grown⟩
 by_cases h2 : 11 < o
 ·have HV := mh (F0.out (HO.out (.inr h2)))
  have SG := SG0
  go_enter Tryz.func178, Tryz.ntmps178
  go_wp2_with (first | (go_at_call 207; (with_reducible refine cmo (LM.out _) ?_); rintro e w1 ⟨rfl, rfl⟩) | (go_at_call 208; (with_reducible refine cmo (KD.out _) ?_); rintro e w1 ⟨rfl, rfl⟩) | (go_at_call 209; (with_reducible refine cmo (SG.out _) ?_); rintro e w1 ⟨rfl, rfl⟩))
  go_ret
  exact ⟨by rw [HV.out]; rfl, by go_grown⟩
 have SP := mh (SP0.out (by omega) (by omega)); clear SP0 HO
 cases hs
 ·have h4 : ¬ o = 4 := fun e => by have := HM.out.1 e; cases this
  have h7 : ¬ o = 7 := fun e => by have := HM.out.2 e; cases this
  have h4b : (o == 4) = false := beq_eq_false_iff_ne.2 h4; have h7b : (o == 7) = false := beq_eq_false_iff_ne.2 h7; have h7c : (o != 7) = true := bne_iff_ne.2 h7; have SG := SG0
  by_cases hn0 : n = 0
  rotate_left
  ·have hnb : (n != 0) = true := bne_iff_ne.2 hn0
   have HV := mh (F0.out (Bool.eq_false_iff.2 fun e => by obtain ⟨a1, a2, a3, a4, a5⟩ := SP.out.1 e; exact absurd a1 hn0))
   go_enter Tryz.func178, Tryz.ntmps178
   go_wp2_with (first | (go_at_call 207; (with_reducible refine cmo (LM.out _) ?_); rintro e w1 ⟨rfl, rfl⟩) | (go_at_call 208; (with_reducible refine cmo (KD.out _) ?_); rintro e w1 ⟨rfl, rfl⟩) | (go_at_call 209; (with_reducible refine cmo (SG.out _) ?_); rintro e w1 ⟨rfl, rfl⟩))
   go_ret
   exact ⟨by rw [HV.out]; rfl, by go_grown⟩
  subst hn0
  by_cases hm0 : m = 0
  rotate_left
  ·have hmb : (m != 0) = true := bne_iff_ne.2 hm0
   have HV := mh (F0.out (Bool.eq_false_iff.2 fun e => by obtain ⟨a1, a2, a3, a4, a5⟩ := SP.out.1 e; rw [if_neg h7] at a3; exact hm0 a3))
   go_enter Tryz.func178, Tryz.ntmps178
   go_wp2_with (first | (go_at_call 207; (with_reducible refine cmo (LM.out _) ?_); rintro e w1 ⟨rfl, rfl⟩) | (go_at_call 208; (with_reducible refine cmo (KD.out _) ?_); rintro e w1 ⟨rfl, rfl⟩) | (go_at_call 209; (with_reducible refine cmo (SG.out _) ?_); rintro e w1 ⟨rfl, rfl⟩))
   go_ret
   exact ⟨by rw [HV.out]; rfl, by go_grown⟩
  subst hm0
  by_cases g1 : (K.length : Int) < le
  ·have HV := mh (F0.out (Bool.eq_false_iff.2 fun e => by obtain ⟨a1, a2, a3, a4, a5⟩ := SP.out.1 e; omega))
   go_enter Tryz.func178, Tryz.ntmps178
   go_wp2_with (first | (go_at_call 207; (with_reducible refine cmo (LM.out _) ?_); rintro e w1 ⟨rfl, rfl⟩) | (go_at_call 208; (with_reducible refine cmo (KD.out _) ?_); rintro e w1 ⟨rfl, rfl⟩) | (go_at_call 209; (with_reducible refine cmo (SG.out _) ?_); rintro e w1 ⟨rfl, rfl⟩))
   go_ret
   exact ⟨by rw [HV.out]; rfl, by go_grown⟩
  by_cases g2 : mo < (K.length : Int)
  ·have HV := mh (F0.out (Bool.eq_false_iff.2 fun e => by obtain ⟨a1, a2, a3, a4, a5⟩ := SP.out.1 e; omega))
   go_enter Tryz.func178, Tryz.ntmps178
   go_wp2_with (first | (go_at_call 207; (with_reducible refine cmo (LM.out _) ?_); rintro e w1 ⟨rfl, rfl⟩) | (go_at_call 208; (with_reducible refine cmo (KD.out _) ?_); rintro e w1 ⟨rfl, rfl⟩) | (go_at_call 209; (with_reducible refine cmo (SG.out _) ?_); rintro e w1 ⟨rfl, rfl⟩))
   go_ret
   exact ⟨by rw [HV.out]; rfl, by go_grown⟩
  have HV := mh (F1.out (SP.out.2 ⟨by simp, by simp_all, by simp_all, by omega, by omega⟩))
  go_enter Tryz.func178, Tryz.ntmps178
  go_wp2_with (first | (go_at_call 207; (with_reducible refine cmo (LM.out _) ?_); rintro e w1 ⟨rfl, rfl⟩) | (go_at_call 208; (with_reducible refine cmo (KD.out _) ?_); rintro e w1 ⟨rfl, rfl⟩) | (go_at_call 209; (with_reducible refine cmo (SG.out _) ?_); rintro e w1 ⟨rfl, rfl⟩) | (go_at_call 210; (with_reducible refine cmo CF.out ?_); rintro e w1 ⟨rfl, hb1⟩))
  go_ret
  exact ⟨ret_bool HV.out.symm, HB0.out.trans (hb1.mono (by simp; omega))⟩
 ·by_cases f1 : n < lo
  ·have HV := mh (F0.out (Bool.eq_false_iff.2 fun e => by obtain ⟨a1, a2, a3, a4, a5⟩ := SP.out.1 e; rw [if_pos rfl] at a1; omega))
   go_enter Tryz.func178, Tryz.ntmps178
   go_wp2_with (first | (go_at_call 207; (with_reducible refine cmo (LM.out _) ?_); rintro e w1 ⟨rfl, rfl⟩) | (go_at_call 208; (with_reducible refine cmo (KD.out _) ?_); rintro e w1 ⟨rfl, rfl⟩) | (go_at_call 209; (with_reducible refine cmo (SG.out _) ?_); rintro e w1 ⟨rfl, rfl⟩))
   go_ret
   exact ⟨by rw [HV.out]; rfl, by go_grown⟩
  by_cases f2 : hi < n
  ·have HV := mh (F0.out (Bool.eq_false_iff.2 fun e => by obtain ⟨a1, a2, a3, a4, a5⟩ := SP.out.1 e; rw [if_pos rfl] at a1; omega))
   go_enter Tryz.func178, Tryz.ntmps178
   go_wp2_with (first | (go_at_call 207; (with_reducible refine cmo (LM.out _) ?_); rintro e w1 ⟨rfl, rfl⟩) | (go_at_call 208; (with_reducible refine cmo (KD.out _) ?_); rintro e w1 ⟨rfl, rfl⟩) | (go_at_call 209; (with_reducible refine cmo (SG.out _) ?_); rintro e w1 ⟨rfl, rfl⟩))
   go_ret
   exact ⟨by rw [HV.out]; rfl, by go_grown⟩
  by_cases h4 : o = 4
  ·subst h4
   have SG := mh (SG0.out n); obtain ⟨sn, esn⟩ : ∃ x, single n = x := ⟨_, rfl⟩; rw [esn] at SG SP; clear esn
   cases sn
   ·have HV := mh (F0.out (Bool.eq_false_iff.2 fun e => by obtain ⟨a1, a2, a3, a4, a5⟩ := SP.out.1 e; cases a2 rfl))
    go_enter Tryz.func178, Tryz.ntmps178
    go_wp2_with (first | (go_at_call 207; (with_reducible refine cmo (LM.out _) ?_); rintro e w1 ⟨rfl, rfl⟩) | (go_at_call 208; (with_reducible refine cmo (KD.out _) ?_); rintro e w1 ⟨rfl, rfl⟩) | (go_at_call 209; (with_reducible refine cmo (SG.out _) ?_); rintro e w1 ⟨rfl, rfl⟩))
    go_ret
    exact ⟨by rw [HV.out]; rfl, by go_grown⟩
   by_cases hm0 : m = 0
   rotate_left
   ·have hmb : (m != 0) = true := bne_iff_ne.2 hm0
    have HV := mh (F0.out (Bool.eq_false_iff.2 fun e => by obtain ⟨a1, a2, a3, a4, a5⟩ := SP.out.1 e; rw [if_neg (by decide)] at a3; exact hm0 a3))
    go_enter Tryz.func178, Tryz.ntmps178
    go_wp2_with (first | (go_at_call 207; (with_reducible refine cmo (LM.out _) ?_); rintro e w1 ⟨rfl, rfl⟩) | (go_at_call 208; (with_reducible refine cmo (KD.out _) ?_); rintro e w1 ⟨rfl, rfl⟩) | (go_at_call 209; (with_reducible refine cmo (SG.out _) ?_); rintro e w1 ⟨rfl, rfl⟩))
    go_ret
    exact ⟨by rw [HV.out]; rfl, by go_grown⟩
   subst hm0
   by_cases g1 : (K.length : Int) < le
   ·have HV := mh (F0.out (Bool.eq_false_iff.2 fun e => by obtain ⟨a1, a2, a3, a4, a5⟩ := SP.out.1 e; omega))
    go_enter Tryz.func178, Tryz.ntmps178
    go_wp2_with (first | (go_at_call 207; (with_reducible refine cmo (LM.out _) ?_); rintro e w1 ⟨rfl, rfl⟩) | (go_at_call 208; (with_reducible refine cmo (KD.out _) ?_); rintro e w1 ⟨rfl, rfl⟩) | (go_at_call 209; (with_reducible refine cmo (SG.out _) ?_); rintro e w1 ⟨rfl, rfl⟩))
    go_ret
    exact ⟨by rw [HV.out]; rfl, by go_grown⟩
   by_cases g2 : mo < (K.length : Int)
   ·have HV := mh (F0.out (Bool.eq_false_iff.2 fun e => by obtain ⟨a1, a2, a3, a4, a5⟩ := SP.out.1 e; omega))
    go_enter Tryz.func178, Tryz.ntmps178
    go_wp2_with (first | (go_at_call 207; (with_reducible refine cmo (LM.out _) ?_); rintro e w1 ⟨rfl, rfl⟩) | (go_at_call 208; (with_reducible refine cmo (KD.out _) ?_); rintro e w1 ⟨rfl, rfl⟩) | (go_at_call 209; (with_reducible refine cmo (SG.out _) ?_); rintro e w1 ⟨rfl, rfl⟩))
    go_ret
    exact ⟨by rw [HV.out]; rfl, by go_grown⟩
   have HV := mh (F1.out (SP.out.2 ⟨by first | simpa using ⟨by omega, by omega⟩ | simp_all, by simp_all, by simp_all, by omega, by omega⟩))
   go_enter Tryz.func178, Tryz.ntmps178
   go_wp2_with (first | (go_at_call 207; (with_reducible refine cmo (LM.out _) ?_); rintro e w1 ⟨rfl, rfl⟩) | (go_at_call 208; (with_reducible refine cmo (KD.out _) ?_); rintro e w1 ⟨rfl, rfl⟩) | (go_at_call 209; (with_reducible refine cmo (SG.out _) ?_); rintro e w1 ⟨rfl, rfl⟩) | (go_at_call 210; (with_reducible refine cmo CF.out ?_); rintro e w1 ⟨rfl, hb1⟩))
   go_ret
   exact ⟨ret_bool HV.out.symm, HB0.out.trans (hb1.mono (by simp; omega))⟩
  by_cases h7 : o = 7
  ·subst h7
   have SG := mh (SG0.out m); obtain ⟨sn, esn⟩ : ∃ x, single m = x := ⟨_, rfl⟩; rw [esn] at SG SP; clear esn
   cases sn
   ·have HV := mh (F0.out (Bool.eq_false_iff.2 fun e => by obtain ⟨a1, a2, a3, a4, a5⟩ := SP.out.1 e; rw [if_pos rfl] at a3; cases a3))
    go_enter Tryz.func178, Tryz.ntmps178
    go_wp2_with (first | (go_at_call 207; (with_reducible refine cmo (LM.out _) ?_); rintro e w1 ⟨rfl, rfl⟩) | (go_at_call 208; (with_reducible refine cmo (KD.out _) ?_); rintro e w1 ⟨rfl, rfl⟩) | (go_at_call 209; (with_reducible refine cmo (SG.out _) ?_); rintro e w1 ⟨rfl, rfl⟩))
    go_ret
    exact ⟨by rw [HV.out]; rfl, by go_grown⟩
   by_cases g1 : (K.length : Int) < le
   ·have HV := mh (F0.out (Bool.eq_false_iff.2 fun e => by obtain ⟨a1, a2, a3, a4, a5⟩ := SP.out.1 e; omega))
    go_enter Tryz.func178, Tryz.ntmps178
    go_wp2_with (first | (go_at_call 207; (with_reducible refine cmo (LM.out _) ?_); rintro e w1 ⟨rfl, rfl⟩) | (go_at_call 208; (with_reducible refine cmo (KD.out _) ?_); rintro e w1 ⟨rfl, rfl⟩) | (go_at_call 209; (with_reducible refine cmo (SG.out _) ?_); rintro e w1 ⟨rfl, rfl⟩))
    go_ret
    exact ⟨by rw [HV.out]; rfl, by go_grown⟩
   by_cases g2 : mo < (K.length : Int)
   ·have HV := mh (F0.out (Bool.eq_false_iff.2 fun e => by obtain ⟨a1, a2, a3, a4, a5⟩ := SP.out.1 e; omega))
    go_enter Tryz.func178, Tryz.ntmps178
    go_wp2_with (first | (go_at_call 207; (with_reducible refine cmo (LM.out _) ?_); rintro e w1 ⟨rfl, rfl⟩) | (go_at_call 208; (with_reducible refine cmo (KD.out _) ?_); rintro e w1 ⟨rfl, rfl⟩) | (go_at_call 209; (with_reducible refine cmo (SG.out _) ?_); rintro e w1 ⟨rfl, rfl⟩))
    go_ret
    exact ⟨by rw [HV.out]; rfl, by go_grown⟩
   have HV := mh (F1.out (SP.out.2 ⟨by first | simpa using ⟨by omega, by omega⟩ | simp_all, by simp_all, by simp_all, by omega, by omega⟩))
   go_enter Tryz.func178, Tryz.ntmps178
   go_wp2_with (first | (go_at_call 207; (with_reducible refine cmo (LM.out _) ?_); rintro e w1 ⟨rfl, rfl⟩) | (go_at_call 208; (with_reducible refine cmo (KD.out _) ?_); rintro e w1 ⟨rfl, rfl⟩) | (go_at_call 209; (with_reducible refine cmo (SG.out _) ?_); rintro e w1 ⟨rfl, rfl⟩) | (go_at_call 210; (with_reducible refine cmo CF.out ?_); rintro e w1 ⟨rfl, hb1⟩))
   go_ret
   exact ⟨ret_bool HV.out.symm, HB0.out.trans (hb1.mono (by simp; omega))⟩
  have h4b : (o == 4) = false := beq_eq_false_iff_ne.2 h4; have h7b : (o == 7) = false := beq_eq_false_iff_ne.2 h7; have h7c : (o != 7) = true := bne_iff_ne.2 h7; have SG := SG0
  by_cases hm0 : m = 0
  rotate_left
  ·have hmb : (m != 0) = true := bne_iff_ne.2 hm0
   have HV := mh (F0.out (Bool.eq_false_iff.2 fun e => by obtain ⟨a1, a2, a3, a4, a5⟩ := SP.out.1 e; rw [if_neg h7] at a3; exact hm0 a3))
   go_enter Tryz.func178, Tryz.ntmps178
   go_wp2_with (first | (go_at_call 207; (with_reducible refine cmo (LM.out _) ?_); rintro e w1 ⟨rfl, rfl⟩) | (go_at_call 208; (with_reducible refine cmo (KD.out _) ?_); rintro e w1 ⟨rfl, rfl⟩) | (go_at_call 209; (with_reducible refine cmo (SG.out _) ?_); rintro e w1 ⟨rfl, rfl⟩))
   go_ret
   exact ⟨by rw [HV.out]; rfl, by go_grown⟩
  subst hm0
  by_cases g1 : (K.length : Int) < le
  ·have HV := mh (F0.out (Bool.eq_false_iff.2 fun e => by obtain ⟨a1, a2, a3, a4, a5⟩ := SP.out.1 e; omega))
   go_enter Tryz.func178, Tryz.ntmps178
   go_wp2_with (first | (go_at_call 207; (with_reducible refine cmo (LM.out _) ?_); rintro e w1 ⟨rfl, rfl⟩) | (go_at_call 208; (with_reducible refine cmo (KD.out _) ?_); rintro e w1 ⟨rfl, rfl⟩) | (go_at_call 209; (with_reducible refine cmo (SG.out _) ?_); rintro e w1 ⟨rfl, rfl⟩))
   go_ret
   exact ⟨by rw [HV.out]; rfl, by go_grown⟩
  by_cases g2 : mo < (K.length : Int)
  ·have HV := mh (F0.out (Bool.eq_false_iff.2 fun e => by obtain ⟨a1, a2, a3, a4, a5⟩ := SP.out.1 e; omega))
   go_enter Tryz.func178, Tryz.ntmps178
   go_wp2_with (first | (go_at_call 207; (with_reducible refine cmo (LM.out _) ?_); rintro e w1 ⟨rfl, rfl⟩) | (go_at_call 208; (with_reducible refine cmo (KD.out _) ?_); rintro e w1 ⟨rfl, rfl⟩) | (go_at_call 209; (with_reducible refine cmo (SG.out _) ?_); rintro e w1 ⟨rfl, rfl⟩))
   go_ret
   exact ⟨by rw [HV.out]; rfl, by go_grown⟩
  have HV := mh (F1.out (SP.out.2 ⟨by first | simpa using ⟨by omega, by omega⟩ | simp_all, by simp_all, by simp_all, by omega, by omega⟩))
  go_enter Tryz.func178, Tryz.ntmps178
  go_wp2_with (first | (go_at_call 207; (with_reducible refine cmo (LM.out _) ?_); rintro e w1 ⟨rfl, rfl⟩) | (go_at_call 208; (with_reducible refine cmo (KD.out _) ?_); rintro e w1 ⟨rfl, rfl⟩) | (go_at_call 209; (with_reducible refine cmo (SG.out _) ?_); rintro e w1 ⟨rfl, rfl⟩) | (go_at_call 210; (with_reducible refine cmo CF.out ?_); rintro e w1 ⟨rfl, hb1⟩))
  go_ret
  exact ⟨ret_bool HV.out.symm, HB0.out.trans (hb1.mono (by simp; omega))⟩
theorem right_any (Q : Nat → Prop) : ∀ D : Nat, D ≤ 1000 → RightAt Q D
 | 0, _ => right_zero Q
 | D + 1, h => right_succ (by omega) (right_any Q D (by omega))
theorem check16_any {Q : Nat → Prop} (d : Nat) (r : RT) (t : Tm) (w : World) (h : TV Q w d r t) :
  Calls Tryz.prog 132 #[.agg #[I O r.op, I O r.num, I O r.more, .slice r.p r.n r.c]] w (IntG (chkT t) w) := by
 have hA : Below w.heap.size w (w.alloc (.cells #[I O r.op, I O r.num, I O r.more, .slice r.p r.n r.c] 96)) := (brf _ _).alloc mle _; have CT := mh (count16_any d r t 40 _ (h.below hA) (by omega) (by omega)); have RT := mh (fun (W : World) (hW : Below w.heap.size w W) => show Calls Tryz.prog 178 #[.agg #[I O r.op, I O r.num, I O r.more, .slice r.p r.n r.c], I O 8] W (BoolG (rightB 8 t) W) from right_any Q 8 (by omega) d r t W (h.below hW)); have CR := mh (chkT_right t); have HA := mh hA; have CB := cntV_bd t 40 (by omega); have HC := mh (show (cntV t 40 ≤ 40 ↔ count t ≤ 40) by unfold cntV; split <;> omega); obtain ⟨N, eN⟩ : ∃ N, cntV t 40 = N := ⟨_, rfl⟩; rw [eN] at CT CB HC; obtain ⟨B, eB⟩ : ∃ B, rightB 8 t = B := ⟨_, rfl⟩; rw [eB] at RT CR; clear eN eB h hA
 by_cases h1 : 40 < N
 ·have HV := mh (show chkT t = 1 by rw [CR.out, if_pos (by have := HC.out; omega)])
  go_enter Tryz.func132, Tryz.ntmps132
  go_wp2_with (first | (go_at_call 177; (with_reducible refine cmo CT.out ?_); rintro e w1 ⟨rfl, hb1⟩))
  go_ret
  exact ⟨ret_int HV.out.symm, bstep mle HA.out hb1⟩
 ·have hN : ¬ 40 < count t := by have := HC.out; omega
  cases B
  ·have HV := mh (show chkT t = 16 by rw [CR.out, if_neg hN, if_pos rfl])
   go_enter Tryz.func132, Tryz.ntmps132
   go_wp2_with (first | (go_at_call 177; (with_reducible refine cmo CT.out ?_); rintro e w1 ⟨rfl, hb1⟩; have hk := hb1.cell (p := ⟨w.heap.size, 0, none⟩) (by simp); have RT1 := mh (RT.out w1 (bstep mle HA.out hb1)); have HB1 := mh (bstep mle HA.out hb1); have hk0 := mcell hb1 0; have hk1 := mcell hb1 1; have hk2 := mcell hb1 2; have hk3 := mcell hb1 3; clear hb1) | (go_at_call 178; (with_reducible refine cmo RT1.out ?_); rintro e w2 ⟨rfl, hb2⟩))
   go_ret
   exact ⟨ret_int HV.out.symm, bstep mle HB1.out hb2⟩
  ·have HV := mh (show chkT t = 0 by rw [CR.out, if_neg hN, if_neg (by simp)])
   go_enter Tryz.func132, Tryz.ntmps132
   go_wp2_with (first | (go_at_call 177; (with_reducible refine cmo CT.out ?_); rintro e w1 ⟨rfl, hb1⟩; have RT1 := mh (RT.out w1 (bstep mle HA.out hb1)); have HB1 := mh (bstep mle HA.out hb1); have hk0 := mcell hb1 0; have hk1 := mcell hb1 1; have hk2 := mcell hb1 2; have hk3 := mcell hb1 3; clear hb1) | (go_at_call 178; (with_reducible refine cmo RT1.out ?_); rintro e w2 ⟨rfl, hb2⟩))
   go_ret
   exact ⟨ret_int HV.out.symm, bstep mle HB1.out hb2⟩
end Go.Proofs.YtmlfcpglhipjgaaGreat
