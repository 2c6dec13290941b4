/-
  PACKED (pack8.py): what is needed of the texts Rb, T20, T28, Q7, Ah.
-/
import Derived.Test.YtmlfcpglhipjgaaGreatR21
set_option maxRecDepth 100000
set_option maxHeartbeats 8000000
open Go.Value renaming int → I
open Go.IntKind renaming i64 → O
namespace Go.Proofs.YtmlfcpglhipjgaaGreat
open Go.RowKit
theorem ab_eq {D : List (Int × Int)} {k : Nat} {x y : Int} (h : D.getD k (0, 0) = (x, y)) : Re.ab D k = x := by unfold Re.ab; rw [h]
theorem ti_eq {D : List (Int × Int)} {k : Nat} {x y : Int} (h : D.getD k (0, 0) = (x, y)) : Re.ti D k = y := by unfold Re.ti; rw [h]
theorem hold_facts {D : List (Int × Int)} {k : Nat} {x y d f : Int} (hR : Re.Right D) (hk : k < D.length) (h : D.getD k (0, 0) = (x, y)) (d0 : 0 ≤ d ∧ d ≤ 268435456) (f0 : 0 ≤ f ∧ f ≤ 268435456) :
  ∃ X M : Int, IntKind.i64.wrap (x * f) = X ∧ IntKind.i64.wrap (1000 * max 0 (d - f)) = M ∧ IntKind.i64.wrap (d - f) = d - f ∧ Re.holds D d f k = decide (X < M) := by
 have h1 := hR.ab0 hk; rw [ab_eq h] at h1; have h2 : 0 ≤ x * f := Int.mul_nonneg h1.1 f0.1; have h3 : x * f ≤ 100000 * 268435456 := Int.mul_le_mul h1.2 f0.2 f0.1 (by omega); refine ⟨x * f, 1000 * max 0 (d - f), ?_, ?_, ?_, ?_⟩
 ·generalize x * f = y at *; rw [IntKind.wrap_i64]; omega
 ·rw [IntKind.wrap_i64]; omega
 ·rw [IntKind.wrap_i64]; omega
 ·unfold Re.holds; rw [ab_eq h]
theorem rstep_any (p : Option Addr) (D : List (Int × Int)) (cap : Nat) (d f : Int) (w : World) (h : Pairs w p D) (hR : Re.Right D) (d0 : 0 ≤ d ∧ d ≤ 268435456) (f0 : 0 ≤ f ∧ f ≤ 268435456) :
  Calls Tryz.prog 193 #[.slice p D.length cap, I O d, I O f] w fun e w' => e = .returned (I O (Re.step D d f)) ∧ w = w' := by
 have H := mh h; have R := mh hR; have h6 := hR.len; have h1 := hR.len1; have hwl : IntKind.i64.wrap ((D.length : Int) - 1) = (D.length : Int) - 1 := by rw [IntKind.wrap_i64]; omega
 have hwd : IntKind.i64.wrap (d - f) = d - f := by rw [IntKind.wrap_i64]; omega
 clear h hR
 go_enter Tryz.func193, Tryz.ntmps193
 go_wp2
 go_loop [8] (fun i => ∃ k : Nat, k ≤ D.length ∧ i = I O ((k : Int) - 1) ∧ Re.step D d f = Re.stepTo D d f k) (fun i => (intOf i + 1).toNat)
 case atStart => exact ⟨D.length, Nat.le_refl _, rfl, rfl⟩
 case round =>
  obtain ⟨k, hk, rfl, hst⟩ := hrel; have HST := mh hst; clear hst
  rcases Nat.eq_zero_or_pos k with rfl | hpos
  ·go_wp2
   go_ret
   exact ⟨by rw [HST.out]; rfl, rfl⟩
  ·obtain ⟨n, rfl⟩ : ∃ n, k = n + 1 := ⟨k - 1, by omega⟩
   have hlt : n < D.length := by omega
   obtain ⟨b, off, x, y, rfl, hbl, hx, hy, hxy⟩ := H.out.get hlt; obtain ⟨X, M, g2, g3, g4, g5⟩ := hold_facts R.out hlt hxy.out d0 f0; have HS := mh (show Re.stepTo D d f (n + 1) = if Re.holds D d f n = true then (n : Int) else Re.stepTo D d f n from rfl); have hn0 : (0 : Int) ≤ (n : Int) := inn _; have hn1 : (n : Int) < (D.length : Int) := by omega
   have hnn : (n : Int) + 1 - 1 = (n : Int) := by omega
   have hwn : IntKind.i64.wrap ((n : Int) - 1) = (n : Int) - 1 := by rw [IntKind.wrap_i64]; omega
   by_cases hh : X < M
   ·have hh' : decide (X < M) = true := dqt hh
    have HE := mh (show Re.step D d f = (n : Int) by rw [HST.out, HS.out, g5, if_pos hh']); clear g5
    go_wp2
    go_ret
    exact ⟨by rw [HE.out]; rfl, rfl⟩
   ·have hh' : decide (X < M) = false := dqf hh
    have HE := mh (show Re.step D d f = Re.stepTo D d f n by rw [HST.out, HS.out, g5, hh', if_neg (by decide)]); clear g5
    go_wp2
    go_round
    case rel => exact ⟨n, by omega, rfl, HE.out⟩
    case measure => simp [intOf]
theorem step_cases (D : List (Int × Int)) (d f : Int) :
  (Re.chk D = 66 ∧ Re.stepV D d f = -1) ∨ (Re.chk D = 0 ∧ Re.area d = false ∧ Re.stepV D d f = -1) ∨ (Re.chk D = 0 ∧ Re.area d = true ∧ Re.area f = false ∧ Re.stepV D d f = -1) ∨ (Re.chk D = 0 ∧ Re.area d = true ∧ Re.area f = true ∧ Re.Right D ∧ Re.stepV D d f = Re.step D d f) := by
 by_cases hR : Re.Right D
 ·have c := Re.chk_zero.2 hR
  cases h1 : Re.area d
  ·exact .inr (.inl ⟨c, rfl, by unfold Re.stepV; rw [if_pos (.inr (.inl h1))]⟩)
  ·cases h2 : Re.area f
   ·exact .inr (.inr (.inl ⟨c, rfl, rfl, by unfold Re.stepV; rw [if_pos (.inr (.inr h2))]⟩))
   ·exact .inr (.inr (.inr ⟨c, rfl, rfl, hR, by unfold Re.stepV; rw [if_neg]; rw [c, h1, h2]; simp⟩))
 ·have c := Re.chk_not hR
  exact .inl ⟨c, by unfold Re.stepV; rw [if_pos (.inl (by rw [c]; decide))]⟩
theorem paid_cases (D : List (Int × Int)) (d f : Int) :
  (Re.chk D = 66 ∧ Re.paidErr D d f = 66 ∧ Re.paidVal D d f = 0) ∨ (Re.chk D = 0 ∧ Re.area d = false ∧ Re.paidErr D d f = 2 ∧ Re.paidVal D d f = 0) ∨ (Re.chk D = 0 ∧ Re.area d = true ∧ Re.area f = false ∧ Re.paidErr D d f = 2 ∧ Re.paidVal D d f = 0) ∨
  (Re.chk D = 0 ∧ Re.area d = true ∧ Re.area f = true ∧ Re.Right D ∧ Re.paidErr D d f = 0 ∧ Re.paidVal D d f = Re.paid D d f) := by
 rcases step_cases D d f with ⟨c, -⟩ | ⟨c, h1, -⟩ | ⟨c, h1, h2, -⟩ | ⟨c, h1, h2, hR, -⟩
 ·have e : Re.paidErr D d f = 66 := by unfold Re.paidErr; rw [if_pos (by rw [c]; decide)]
  exact .inl ⟨c, e, by unfold Re.paidVal; rw [if_pos (by rw [e]; decide)]⟩
 ·have e : Re.paidErr D d f = 2 := by unfold Re.paidErr; rw [if_neg (by rw [c]; decide), if_pos (.inl h1)]
  exact .inr (.inl ⟨c, h1, e, by unfold Re.paidVal; rw [if_pos (by rw [e]; decide)]⟩)
 ·have e : Re.paidErr D d f = 2 := by unfold Re.paidErr; rw [if_neg (by rw [c]; decide), if_pos (.inr h2)]
  exact .inr (.inr (.inl ⟨c, h1, h2, e, by unfold Re.paidVal; rw [if_pos (by rw [e]; decide)]⟩))
 ·have e : Re.paidErr D d f = 0 := by unfold Re.paidErr; rw [if_neg (by rw [c]; decide), if_neg (by rw [h1, h2]; simp)]
  exact .inr (.inr (.inr ⟨c, h1, h2, hR, e, by unfold Re.paidVal; rw [if_neg (by rw [e]; decide)]⟩))
theorem paid_any (p : Option Addr) (D : List (Int × Int)) (cap : Nat) (d f : Int) (w : World) (h : Pairs w p D) :
  Calls Tryz.prog 154 #[.slice p D.length cap, I O d, I O f] w fun e w' => e = .returned (.tuple #[I O (Re.paidVal D d f), I O (Re.paidErr D d f)]) ∧ Below w.heap.size w w' := by
 have hc := rcheck_any p D cap w h
 rcases paid_cases D d f with ⟨c, e, e2⟩ | ⟨c, h1, e, e2⟩ | ⟨c, h1, h2, e, e2⟩ | ⟨c, h1, h2, hR, e, e2⟩
 all_goals rw [c] at hc; rw [e, e2]
 ·have HC := mh hc
  clear hc h c e e2
  go_enter Tryz.func154, Tryz.ntmps154
  go_wp2_with (first | (go_at_call 59; refine (HC.out).mono ?_; rintro e w1 ⟨rfl, hb1⟩))
  go_ret2
  exact ⟨rfl, hb1⟩
 ·have HC := mh hc
  clear hc h c e e2
  go_enter Tryz.func154, Tryz.ntmps154
  go_wp2_with (first | (go_at_call 59; refine (HC.out).mono ?_; rintro e w1 ⟨rfl, hb1⟩) | (go_at_call 192; refine (area_any _ _).mono ?_; rintro e w' ⟨rfl, rfl⟩))
  go_ret2
  exact ⟨rfl, hb1⟩
 ·have HC := mh hc
  clear hc h c e e2
  go_enter Tryz.func154, Tryz.ntmps154
  go_wp2_with (first | (go_at_call 59; refine (HC.out).mono ?_; rintro e w1 ⟨rfl, hb1⟩) | (go_at_call 192; refine (area_any _ _).mono ?_; rintro e w' ⟨rfl, rfl⟩))
  go_ret2
  exact ⟨rfl, hb1⟩
 ·have HC := mh hc
  have H := mh h; have d0 := Re.area_iff.1 h1; have f0 := Re.area_iff.1 h2; have h6 := hR.len
  by_cases hdf : d ≤ f
  ·have hp : Re.paid D d f = d := by unfold Re.paid; rw [if_pos hdf]
   rw [hp]; clear hc h c e e2 hp hR
   go_enter Tryz.func154, Tryz.ntmps154
   go_wp2_with (first | (go_at_call 59; refine (HC.out).mono ?_; rintro e w1 ⟨rfl, hb1⟩) | (go_at_call 192; refine (area_any _ _).mono ?_; rintro e w' ⟨rfl, rfl⟩))
   go_ret2
   exact ⟨rfl, hb1⟩
  have hs := fun (W : World) (hP : Pairs W p D) => rstep_any p D cap d f W hP hR d0 f0
  rcases Re.step_spec (l := D) (d := d) (f := f) with ⟨es, -⟩ | ⟨n, es, hn, -, -⟩
  ·have hp : Re.paid D d f = f := by unfold Re.paid; rw [if_neg hdf, if_pos (by omega)]
   rw [hp]; rw [es] at hs; have HS := mh hs; clear hc h c e e2 hp hs es hR
   go_enter Tryz.func154, Tryz.ntmps154
   go_wp2_with (first | (go_at_call 59; refine (HC.out).mono ?_; rintro e w1 ⟨rfl, hb1⟩) | (go_at_call 192; refine (area_any _ _).mono ?_; rintro e w' ⟨rfl, rfl⟩) | (go_at_call 193; refine (HS.out _ (H.out.below hb1)).mono ?_; rintro e w' ⟨rfl, rfl⟩))
   go_ret2
   exact ⟨rfl, hb1⟩
  ·obtain ⟨b, off, x, y, rfl, hbl, hx, hy, hxy⟩ := H.out.get hn
   have ht := ti_eq hxy.out; rw [es] at hs; have HS := mh hs; have hn0 : (0 : Int) ≤ (n : Int) := inn _; have hn1 : (n : Int) < (D.length : Int) := by omega
   have hnB : decide ((n : Int) < 0) = false := dqf (by omega)
   by_cases hy1 : y = -1
   ·have hp : Re.paid D d f = 0 := by unfold Re.paid; rw [if_neg hdf, if_neg (by omega), es, Int.toNat_natCast, ht, if_pos hy1]
    rw [hp]; have hyB : (y == -1) = true := beq_iff_eq.2 hy1; clear hc h c e e2 hp hs es hR ht hy1
    go_enter Tryz.func154, Tryz.ntmps154
    go_wp2_with (first | (go_at_call 59; refine HC.out.mono ?_; rintro e w1 ⟨rfl, hb1⟩; have hy2 := (hb1.cell (p := ⟨b, off + n * 2 + 1, none⟩) hbl).trans hy) | (go_at_call 192; refine (area_any _ _).mono ?_; rintro e w' ⟨rfl, rfl⟩) | (go_at_call 193; refine (HS.out _ (H.out.below hb1)).mono ?_; rintro e w' ⟨rfl, rfl⟩))
    go_ret2
    exact ⟨rfl, hb1⟩
   ·have hp : Re.paid D d f = max 0 (f - y * (d - f)) := by unfold Re.paid; rw [if_neg hdf, if_neg (by omega), es, Int.toNat_natCast, ht, if_neg hy1]
    rw [hp]; have hyB : (y == -1) = false := beq_eq_false_iff_ne.2 hy1; have hyb : 0 ≤ y ∧ y ≤ 10 := by
     have := hR.ti0 hn; rw [ht] at this; omega
    have m0 : 0 ≤ y * (d - f) := Int.mul_nonneg hyb.1 (by omega); have m1 : y * (d - f) ≤ 10 * 268435456 := Int.mul_le_mul hyb.2 (by omega) (by omega) (by omega); have hwd : IntKind.i64.wrap (d - f) = d - f := by rw [IntKind.wrap_i64]; omega
    obtain ⟨M, hM⟩ : ∃ M, y * (d - f) = M := ⟨_, rfl⟩; have hwm : IntKind.i64.wrap (y * (d - f)) = M := by rw [hM] at m0 m1 ⊢; rw [IntKind.wrap_i64]; omega
    rw [hM] at m0 m1 ⊢; have hws : IntKind.i64.wrap (f - M) = f - M := by rw [IntKind.wrap_i64]; omega
    clear hc h c e e2 hp hs es hR ht hM
    go_enter Tryz.func154, Tryz.ntmps154
    go_wp2_with (first | (go_at_call 59; refine HC.out.mono ?_; rintro e w1 ⟨rfl, hb1⟩; have hy2 := (hb1.cell (p := ⟨b, off + n * 2 + 1, none⟩) hbl).trans hy) | (go_at_call 192; refine (area_any _ _).mono ?_; rintro e w' ⟨rfl, rfl⟩) | (go_at_call 193; refine (HS.out _ (H.out.below hb1)).mono ?_; rintro e w' ⟨rfl, rfl⟩))
    go_ret2
    exact ⟨rfl, hb1⟩
open Te
theorem down100_any (n : Int) (h0 : 0 ≤ n) (h1 : n ≤ 1125899906842624) (w : World) : Calls Tryz.prog 194 #[I O n, I O 100] w fun e w' => e = .returned (I O (n / 100)) ∧ w = w' := by
 have FT : ∀ W, Calls Tryz.prog 223 #[I O n, I O 100] W fun e w' => e = .returned (.bool true) ∧ W = w' := fun W => by
  have g : ¬ n < -1125899906842624 := by omega
  have g2 : (-1125899906842624 : Int) ≤ n := by omega
  go_enter Tryz.func223, Tryz.ntmps223
  go_wp2
  go_ret
  exact ⟨rfl, rfl⟩
 have FT := mh FT; have hq : n.tdiv 100 = n / 100 := Int.tdiv_eq_ediv_of_nonneg h0; have hr : n.tmod 100 = n % 100 := Int.tmod_eq_emod_of_nonneg h0; have hr2 : ¬ n % 100 < 0 := by omega
 go_enter Tryz.func194, Tryz.ntmps194
 go_wp2_with (first | (go_at_call 223; (with_reducible refine cmo (FT.out _) ?_); rintro e w1 ⟨rfl, rfl⟩))
 go_ret
 exact ⟨rfl, rfl⟩
open Sc
theorem one_br {s : Sch} (h : one17 s = 0) : brB s.br = true := by
 unfold one17 at h
 split at h
 ·cases h
 split at h
 ·cases h
 split at h
 ·rename_i h1; exact absurd h h1
 split at h
 ·cases h
 ·rename_i h1
  cases e : brB s.br
  ·exact absurd (.inl e) h1
  ·rfl
theorem amt_succ {l : List Brk} {sq : Int} {k : Nat} (hk : k < l.length) : amt l sq (k + 1) = amt l sq k + max 0 (min sq l[k].up - upB l k) * l[k].rate := by
 show amt l sq k + (match l[k]? with | some b => max 0 (min sq b.up - upB l k) * b.rate | none => 0) = _
 rw [List.getElem?_eq_getElem hk]
theorem br_right {l : List Brk} {k : Nat} (hk : k < l.length) (h : brAll l (k + 1) = true) : upB l k < l[k].up ∧ l[k].up ≤ 268435456 ∧ 0 ≤ l[k].rate ∧ l[k].rate ≤ 1048576 ∧ 0 ≤ upB l k := by
 have h2 := h; rw [brAll_succ, Bool.and_eq_true] at h2; have h3 := h2.2; rw [brAt_some hk, Bool.and_eq_true, Bool.and_eq_true, Bool.and_eq_true, decide_eq_true_eq, decide_eq_true_eq, decide_eq_true_eq, decide_eq_true_eq] at h3; exact ⟨h3.1, h3.2.1, h3.2.2.1, h3.2.2.2, upB_nonneg (by omega) h2.1⟩
theorem part_le {a b r : Int} (h0 : 0 ≤ a) (h1 : a ≤ b) (h2 : 0 ≤ r) (h3 : r ≤ 1048576) : 0 ≤ a * r ∧ a * r ≤ 1048576 * b := by
 refine ⟨Int.mul_nonneg h0 h2, ?_⟩
 have e1 : a * r ≤ a * 1048576 := Int.mul_le_mul_of_nonneg_left h3 h0; omega
theorem amt_le {l : List Brk} {sq : Int} {k : Nat} (hk : k ≤ l.length) (h : brAll l k = true) : 0 ≤ amt l sq k ∧ amt l sq k ≤ 1048576 * upB l k := by
 induction k with
 | zero => exact ⟨Int.le_refl _, by unfold upB; simp [amt]⟩
 | succ k ih =>
   have hk' : k < l.length := by omega
   have h1 := ih (by omega) (brAll_mono (Nat.le_succ k) h); obtain ⟨b1, b2, b3, b4, b5⟩ := br_right hk' h; rw [amt_succ hk', upB_succ hk']; have h2 := part_le (a := max 0 (min sq l[k].up - upB l k)) (b := l[k].up - upB l k) (by omega) (by omega) b3 b4; omega
theorem upB_le {l : List Brk} {k : Nat} (hk : k ≤ l.length) (h : brAll l k = true) : upB l k ≤ 268435456 := by
 cases k with
 | zero => unfold upB; simp
 | succ k => rw [upB_succ (by omega)]; exact (br_right (by omega) h).2.1
theorem amtE_zero {s : Sch} {sq : Int} (h : one17 s = 0) (h0 : 0 ≤ sq) (h1 : sq ≤ 268435456) : amtE s sq = 0 := by
 unfold amtE; rw [if_neg (by omega), if_neg (by omega)]
theorem amtV_zero {s : Sch} {sq : Int} (h : amtE s sq ≠ 0) : amtV s sq = 0 := by unfold amtV; rw [if_pos h]
theorem amtV_ok {s : Sch} {sq : Int} (h : amtE s sq = 0) : amtV s sq = amt s.br sq s.br.length / 100 := by unfold amtV; rw [if_neg (by omega)]
theorem amount17_any {Q : Nat → Prop} (d : Nat) (r : RSx) (s : Sch) (sq : Int) (w : World) (h : SV Q w d r s) (hz : r.nm.size ≤ 9223372036854775807) :
  Calls Tryz.prog 155 #[.agg #[I O r.num, .string r.nm, I O r.t.op, I O r.t.num, I O r.t.more, .slice r.t.p r.t.n r.t.c, .slice r.bp r.bn r.bc, I O r.least, I O r.ex, .bool r.needs], I O sq] w (ChkG (amtV s sq, amtE s sq) w) := by
 have CV := mh (valid_any d r s _ (h.below (balloc mle (brf _ _) (.cells (sCells r).toArray 101))) hz); have HR := mh h.br; have HN := h.bn; clear h hz; obtain ⟨num, nm, ⟨o, tn, tm, tp, tl, tc⟩, bp, bn, bc, least, ex, needs⟩ := r; simp only [sCells] at CV; simp only at HR HN; have HA := mh (balloc mle (brf w.heap.size w) (.cells #[I O num, .string nm, I O o, I O tn, I O tm, .slice tp tl tc, .slice bp bn bc, I O least, I O ex, .bool needs] 101)); subst HN; obtain ⟨v, ev⟩ : ∃ v, one17 s = v := ⟨_, rfl⟩; rw [ev] at CV; obtain ⟨cv, ecv⟩ : ∃ v, (amtV s sq, amtE s sq) = v := ⟨_, rfl⟩; rw [ecv]; have ECV := mh ecv; have EV := mh ev; clear ecv ev
 by_cases hv0 : v = 0
 rotate_left
 ·have HV := mh (show cv = (0, 17) from by
   have e : amtE s sq = 17 := by unfold amtE; rw [if_pos (by rw [EV.out]; exact hv0)]
   rw [← ECV.out, e, amtV_zero (by rw [e]; decide)])
  have hne : (v != 0) = true := by simpa using hv0
  clear hv0
  go_enter Tryz.func155, Tryz.ntmps155
  go_wp2_with (first | (go_at_call 95; (with_reducible refine cmo CV.out ?_); rintro e w1 ⟨rfl, hb1⟩; have HB1 := mh (bstep mle HA.out hb1); have k1 := mcell hb1 6; clear hb1))
  go_ret2
  exact ⟨by rw [HV.out]; rfl, HB1.out⟩
 subst hv0
 by_cases hs : sq < 0 ∨ 268435456 < sq
 ·have HV := mh (show cv = (0, 2) from by
   have e : amtE s sq = 2 := by unfold amtE; rw [if_neg (by rw [EV.out]; decide), if_pos hs]
   rw [← ECV.out, e, amtV_zero (by rw [e]; decide)])
  have HS := mh hs; clear hs
  by_cases h0 : sq < 0
  ·go_enter Tryz.func155, Tryz.ntmps155
   go_wp2_with (first | (go_at_call 95; (with_reducible refine cmo CV.out ?_); rintro e w1 ⟨rfl, hb1⟩; have HB1 := mh (bstep mle HA.out hb1); have k1 := mcell hb1 6; clear hb1))
   go_ret2
   exact ⟨by rw [HV.out]; rfl, HB1.out⟩
  ·have h1 : 268435456 < sq := by have := HS.out; omega
   go_enter Tryz.func155, Tryz.ntmps155
   go_wp2_with (first | (go_at_call 95; (with_reducible refine cmo CV.out ?_); rintro e w1 ⟨rfl, hb1⟩; have HB1 := mh (bstep mle HA.out hb1); have k1 := mcell hb1 6; clear hb1))
   go_ret2
   exact ⟨by rw [HV.out]; rfl, HB1.out⟩
 have hs0 : 0 ≤ sq := by omega
 have hs1 : sq ≤ 268435456 := by omega
 have HV := mh (show cv = (amt s.br sq s.br.length / 100, 0) from by rw [← ECV.out, amtE_zero EV.out hs0 hs1, amtV_ok (amtE_zero EV.out hs0 hs1)]); have HBR := mh (one_br EV.out); have BA := mh (show brAll s.br s.br.length = true from by have := HBR.out; unfold brB at this; rw [Bool.and_eq_true] at this; exact this.1); clear hs; obtain ⟨l, el⟩ : ∃ l, s.br = l := ⟨_, rfl⟩; rw [el] at HR HV BA CV HA ⊢; have hlen := HR.out.len; clear el HBR
 go_enter Tryz.func155, Tryz.ntmps155
 go_wp2_with (first | (go_at_call 95; (with_reducible refine cmo CV.out ?_); rintro e w1 ⟨rfl, hb1⟩; have HB1 := mh (bstep mle HA.out hb1); have k1 := mcell hb1 6; clear hb1))
 go_loopw [6, 7, 22] (fun a b i wr => ∃ k : Nat, k ≤ l.length ∧ i = I O k ∧ a = I O (amt l sq k) ∧ b = I O (upB l k) ∧ Below w.heap.size w wr) (fun _ _ i _ => l.length - (intOf i).toNat)
 case atStart => exact ⟨0, Nat.zero_le _, rfl, rfl, by unfold upB; simp, HB1.out⟩
 case round =>
  obtain ⟨wo, rfl⟩ : ∃ wo : World, wo = wr := ⟨_, rfl⟩; obtain ⟨k, hk, rfl, rfl, rfl, hb⟩ := hrel; have HB := mh hb; have hk0 : (0 : Int) ≤ (k : Int) := inn _; have AL := amt_le (sq := sq) hk (brAll_mono hk BA.out); have UL := upB_le hk (brAll_mono hk BA.out)
  by_cases hlt : k < l.length
  ·have hk1 : (k : Int) < (l.length : Int) := by omega
   obtain ⟨b, off, x, rfl, hbl, x0, x1, hx⟩ := SBk_at (HR.out.below hb) hlt; have BR := br_right hlt (brAll_mono (by omega) BA.out); have AS := amt_succ (sq := sq) hlt; have US := upB_succ hlt; rw [hx.out] at BR AS US; obtain ⟨up, rate⟩ := x; simp only at x0 x1 BR AS US; obtain ⟨b1, b2, b3, b4, b5⟩ := BR; obtain ⟨last, elast⟩ : ∃ x, upB l k = x := ⟨_, rfl⟩; obtain ⟨sum, esum⟩ : ∃ x, amt l sq k = x := ⟨_, rfl⟩; rw [elast] at b1 b5 AL AS UL ⊢; rw [esum] at AL AS ⊢; obtain ⟨l0, l1⟩ := AL; have pl := part_le (a := max 0 (min sq up - last)) (b := up - last) (by omega) (by omega) b3 b4; obtain ⟨X, eX⟩ : ∃ X, max 0 (min sq up - last) * rate = X := ⟨_, rfl⟩; rw [eX] at pl AS; have AS0 := mh AS; clear AS; have US0 := mh US; clear US; have hwX : IntKind.i64.wrap (max 0 (min sq up - last) * rate) = X := by rw [eX, IntKind.wrap_i64]; omega
   have hwd : IntKind.i64.wrap (min sq up - last) = min sq up - last := by rw [IntKind.wrap_i64]; omega
   have pl0 := pl.1; have pl1 : X ≤ 1125899906842624 := by omega
   have l1' : sum ≤ 1125899906842624 := by omega
   have HBJ := mh (balloc mle hb (.cells #[I O up, I O rate] 98)); clear hb hx elast esum eX pl l1 b1 b2 b3 b4 b5 UL
   go_wp2
   go_roundw
   case rel => exact ⟨k + 1, by omega, by go_num, by rw [AS0.out], by rw [US0.out], HBJ.out⟩
   case measure => simp [intOf]; omega
  ·obtain rfl : k = l.length := by omega
   have h0 : 0 ≤ amt l sq l.length := AL.1; have h1 : amt l sq l.length ≤ 1125899906842624 := by omega
   have DN := mh (down100_any (amt l sq l.length) h0 h1 wo); clear hb AL UL h0 h1
   go_wp2_with (first | (go_at_call 194; (with_reducible refine cmo DN.out ?_); rintro e w1 ⟨rfl, rfl⟩))
   go_ret2
   exact ⟨by rw [HV.out]; rfl, HB.out⟩
theorem As.pay_cases (l : As.Lat) (at_ amount : Int) : (As.chkL l = 66 ∧ As.payE l at_ amount = 66 ∧ As.payV l at_ amount = 0) ∨ (As.chkL l = 0 ∧ As.dayB at_ = false ∧ As.payE l at_ amount = 9 ∧ As.payV l at_ amount = 0) ∨
  (As.chkL l = 0 ∧ As.dayB at_ = true ∧ amount < 0 ∧ As.payE l at_ amount = 67 ∧ As.payV l at_ amount = 0) ∨ (As.chkL l = 0 ∧ As.dayB at_ = true ∧ ¬ amount < 0 ∧ 68719476736 < amount ∧ As.payE l at_ amount = 67 ∧ As.payV l at_ amount = 0) ∨
  (As.chkL l = 0 ∧ As.dayB at_ = true ∧ ¬ amount < 0 ∧ ¬ 68719476736 < amount ∧ As.payE l at_ amount = 0 ∧ As.payV l at_ amount = As.left l at_ amount) := by
 unfold As.payV As.payE
 by_cases hc : As.chkL l = 0
 ·rw [if_neg (by omega)]
  cases hd : As.dayB at_
  ·exact .inr (.inl ⟨hc, rfl, rfl, rfl⟩)
  ·rw [if_neg (by decide)]
   by_cases h1 : amount < 0
   ·rw [if_pos (.inl h1)]
    exact .inr (.inr (.inl ⟨hc, rfl, h1, rfl, rfl⟩))
   by_cases h2 : 68719476736 < amount
   ·rw [if_pos (.inr h2)]
    exact .inr (.inr (.inr (.inl ⟨hc, rfl, h1, h2, rfl, rfl⟩)))
   ·rw [if_neg (by omega)]
    exact .inr (.inr (.inr (.inr ⟨hc, rfl, h1, h2, rfl, rfl⟩)))
 ·have h66 : As.chkL l = 66 := by unfold As.chkL at hc ⊢; split at hc <;> simp_all
  rw [if_pos hc]; exact .inl ⟨h66, rfl, rfl⟩
def As.PayG (v : Int × Int) (w : World) (e : Ending) (w' : World) : Prop := e = .returned (.tuple #[I O v.1, I O v.2]) ∧ Below w.heap.size w w'
theorem pay30_any (d l m at_ amount : Int) (w : World) : Calls Tryz.prog 156 #[.agg #[I O d, I O l, I O m], I O at_, I O amount] w (As.PayG (As.payV ⟨d, l, m⟩ at_ amount, As.payE ⟨d, l, m⟩ at_ amount) w) := by
 have HA := mh (balloc mle (brf w.heap.size w) (.cells #[I O d, I O l, I O m] 26)); have CK := mh (fun (W : World) => check30_any d l m W); have D1 := mh (fun (W : World) => day30_any at_ W); have DY := mh (fun (W : World) => days30_any d at_ W)
 rcases As.pay_cases ⟨d, l, m⟩ at_ amount with ⟨h1, hE, hV⟩ | ⟨h1, h2, hE, hV⟩ | ⟨h1, h2, h3, hE, hV⟩ | ⟨h1, h2, h3, h4, hE, hV⟩ | ⟨h1, h2, h3, h4, hE, hV⟩
 ·rw [hE, hV]; rw [h1] at CK
  go_enter Tryz.func156, Tryz.ntmps156
  go_wp2_with (go_at_call 60; (with_reducible refine cmo (CK.out _) ?_); rintro e w1 ⟨rfl, hb1⟩; have HB1 := mh (bstep mle HA.out hb1); have C0 := mcell hb1 0; have C1 := mcell hb1 1; have C2 := mcell hb1 2; have S1 := mh (show w.heap.size < w1.heap.size from nll (by simp) hb1.size); clear hb1)
  go_ret2
  exact ⟨rfl, HB1.out⟩
 ·rw [hE, hV]; rw [h1] at CK; rw [h2] at D1
  go_enter Tryz.func156, Tryz.ntmps156
  go_wp2_with (first | (go_at_call 60; (with_reducible refine cmo (CK.out _) ?_); rintro e w1 ⟨rfl, hb1⟩; have HB1 := mh (bstep mle HA.out hb1); have C0 := mcell hb1 0; have C1 := mcell hb1 1; have C2 := mcell hb1 2; have S1 := mh (show w.heap.size < w1.heap.size from nll (by simp) hb1.size); clear hb1) | (go_at_call 195; (with_reducible refine cmo (D1.out _) ?_); rintro e w2 ⟨rfl, rfl⟩) | fail)
  go_ret2
  exact ⟨rfl, HB1.out⟩
 ·rw [hE, hV]; rw [h1] at CK; rw [h2] at D1
  go_enter Tryz.func156, Tryz.ntmps156
  go_wp2_with (first | (go_at_call 60; (with_reducible refine cmo (CK.out _) ?_); rintro e w1 ⟨rfl, hb1⟩; have HB1 := mh (bstep mle HA.out hb1); have C0 := mcell hb1 0; have C1 := mcell hb1 1; have C2 := mcell hb1 2; have S1 := mh (show w.heap.size < w1.heap.size from nll (by simp) hb1.size); clear hb1) | (go_at_call 195; (with_reducible refine cmo (D1.out _) ?_); rintro e w2 ⟨rfl, rfl⟩) | fail)
  go_ret2
  exact ⟨rfl, HB1.out⟩
 ·rw [hE, hV]; rw [h1] at CK; rw [h2] at D1
  go_enter Tryz.func156, Tryz.ntmps156
  go_wp2_with (first | (go_at_call 60; (with_reducible refine cmo (CK.out _) ?_); rintro e w1 ⟨rfl, hb1⟩; have HB1 := mh (bstep mle HA.out hb1); have C0 := mcell hb1 0; have C1 := mcell hb1 1; have C2 := mcell hb1 2; have S1 := mh (show w.heap.size < w1.heap.size from nll (by simp) hb1.size); clear hb1) | (go_at_call 195; (with_reducible refine cmo (D1.out _) ?_); rintro e w2 ⟨rfl, rfl⟩) | fail)
  go_ret2
  exact ⟨rfl, HB1.out⟩
 have LO := As.latOk h1; have k1 := LO.d0; have k2 := LO.d1; have k3 := LO.d2; have k4 := LO.m0; have k5 := LO.m1; simp only at k1 k2 k3 k4 k5; rw [hE, hV]; rw [h1] at CK; rw [h2] at D1
 by_cases h5 : at_ ≤ d
 ·have EV := mh (show As.left ⟨d, l, m⟩ at_ amount = amount from by unfold As.left; rw [if_pos h5])
  rw [EV.out]
  go_enter Tryz.func156, Tryz.ntmps156
  go_wp2_with (first | (go_at_call 60; (with_reducible refine cmo (CK.out _) ?_); rintro e w1 ⟨rfl, hb1⟩; have HB1 := mh (bstep mle HA.out hb1); have C0 := mcell hb1 0; have C1 := mcell hb1 1; have C2 := mcell hb1 2; have S1 := mh (show w.heap.size < w1.heap.size from nll (by simp) hb1.size); clear hb1) | (go_at_call 195; (with_reducible refine cmo (D1.out _) ?_); rintro e w2 ⟨rfl, rfl⟩) | fail)
  go_ret2
  exact ⟨rfl, HB1.out⟩
 by_cases h6 : l < at_
 ·have EV := mh (show As.left ⟨d, l, m⟩ at_ amount = 0 from by unfold As.left; rw [if_neg h5, if_pos h6])
  rw [EV.out]
  go_enter Tryz.func156, Tryz.ntmps156
  go_wp2_with (first | (go_at_call 60; (with_reducible refine cmo (CK.out _) ?_); rintro e w1 ⟨rfl, hb1⟩; have HB1 := mh (bstep mle HA.out hb1); have C0 := mcell hb1 0; have C1 := mcell hb1 1; have C2 := mcell hb1 2; have S1 := mh (show w.heap.size < w1.heap.size from nll (by simp) hb1.size); clear hb1) | (go_at_call 195; (with_reducible refine cmo (D1.out _) ?_); rintro e w2 ⟨rfl, rfl⟩) | fail)
  go_ret2
  exact ⟨rfl, HB1.out⟩
 obtain ⟨N, eN⟩ : ∃ N, As.days d at_ = N := ⟨_, rfl⟩; have hN := As.days_bd d at_; rw [eN] at hN DY; have hm0 : 0 ≤ m * N := Int.mul_nonneg k4 hN.1; have hm1 : m * N ≤ 1000 * 36864 := Int.mul_le_mul k5 hN.2 hN.1 (by omega); obtain ⟨X, eX⟩ : ∃ X, m * N = X := ⟨_, rfl⟩; have EV := mh (show As.left ⟨d, l, m⟩ at_ amount = amount * max 0 (1000 - X) / 1000 from by unfold As.left; rw [if_neg h5, if_neg h6]; simp only; rw [eN, eX]); rw [eX] at hm0 hm1; have hw1 : IntKind.i64.wrap (m * N) = X := by rw [eX, IntKind.wrap_i64]; omega
 have hw2 : IntKind.i64.wrap (1000 - X) = 1000 - X := by rw [IntKind.wrap_i64]; omega
 obtain ⟨Y, eY⟩ : ∃ Y, max 0 (1000 - X) = Y := ⟨_, rfl⟩; have hY : 0 ≤ Y ∧ Y ≤ 1000 := by omega
 rw [eY] at EV; have hs := As.share_bd (a := amount) (p := Y) (by omega) hY.1 hY.2; have hp : part amount Y 1000 = (amount * Y / 1000, 0) := by
  unfold part; rw [if_pos (by omega), if_neg (by omega)]
 have PA := mh (fun (W : World) => part_any amount Y 1000 W); rw [hp, ← EV.out] at PA; obtain ⟨V, eV⟩ : ∃ V, As.left ⟨d, l, m⟩ at_ amount = V := ⟨_, rfl⟩; rw [eV] at PA ⊢; rw [← eY] at PA; clear EV eV eY hp hs hN hm0 hm1 eX eN LO hE hV
 go_enter Tryz.func156, Tryz.ntmps156
 go_wp2_with (first | (go_at_call 60; (with_reducible refine cmo (CK.out _) ?_); rintro e w1 ⟨rfl, hb1⟩; have HB1 := mh (bstep mle HA.out hb1); have C0 := mcell hb1 0; have C1 := mcell hb1 1; have C2 := mcell hb1 2; have S1 := mh (show w.heap.size < w1.heap.size from nll (by simp) hb1.size); clear hb1) | (go_at_call 195; (with_reducible refine cmo (D1.out _) ?_); rintro e w2 ⟨rfl, rfl⟩) | fail)
 go_region_held3 (fun w' => w'.cell? ⟨w.heap.size, 0, none⟩ = some (I O d) ∧ w'.cell? ⟨w.heap.size, 2, none⟩ = some (I O m)) (first | exact ⟨C0, C2⟩ | exact ⟨D0, D2⟩ | go_keep) (first
  | (go_at_call 197; (with_reducible refine cmo (DY.out _) ?_); rintro e w2 ⟨rfl, rfl⟩)
  | (go_at_call 196; (with_reducible refine cmo (PA.out _) ?_); rintro e w3 ⟨rfl, hb3⟩; have HB3 := mh (bstep mle HB1.out (bdrew' hb3)); have D0 := (hb3.cell (p := ⟨w.heap.size, 0, none⟩) S1.out).trans C0; have D2 := (hb3.cell (p := ⟨w.heap.size, 2, none⟩) S1.out).trans C2; clear hb3))
 go_wp2
 go_ret2
 exact ⟨rfl, HB3.out⟩
open As
structure AmAt (w wr : World) (t xb sb : Nat) (r : RY) (f : RF) (va vr : Value) (y : RSx) (ox : Array Value) : Prop where
 ac : AcAt wr t r f va vr
 ob : wr.heap[xb]? = some (.cells ox 60)
 scb : wr.heap[sb]? = some (.cells #[I O y.num, .string y.nm, I O y.t.op, I O y.t.num, I O y.t.more, .slice y.t.p y.t.n y.t.c, .slice y.bp y.bn y.bc, I O y.least, I O y.ex, .bool y.needs] 101)
 but : But xb w wr
 below : Below t w wr
 ne : xb ≠ t
 ns : sb ≠ xb
section
variable {w wr w' : World} {t xb sb : Nat} {r : RY} {f : RF} {va vr : Value} {y : RSx} {ox : Array Value}
theorem AmAt.next (h : AmAt w wr t xb sb r f va vr y ox) (hb : Below wr.heap.size wr w') : AmAt w w' t xb sb r f va vr y ox :=
 ⟨h.ac.below hb h.ac.lt, (hb.block _ (Array.getElem?_eq_some_iff.1 h.ob).1).trans h.ob, (hb.block _ (Array.getElem?_eq_some_iff.1 h.scb).1).trans h.scb, h.but.nxt hb, h.below.trans (hb.mono (Nat.le_of_lt h.ac.lt)), h.ne, h.ns⟩
theorem AmAt.set (h : AmAt w wr t xb sb r f va vr y ox) (hx : t ≤ xb) (i : Nat) (u : Value) : AmAt w (wr.setCell ⟨xb, i, none⟩ u) t xb sb r f va vr y (ox.setIfInBounds i u) :=
 ⟨h.ac.setO h.ne u, setC h.ob u, (setC_far h.ns u).trans h.scb, ⟨h.but.os, h.but.tape, h.but.output, by simp [World.setCell]; exact h.but.size, fun j hj hn => (setC_far hn u).trans (h.but.block j hj hn)⟩, h.below.setCell hx u, h.ne, h.ns⟩
theorem AmAt.oc (h : AmAt w wr t xb sb r f va vr y ox) (i : Nat) : wr.cell? ⟨xb, i, none⟩ = ox[i]? := by simp [World.cell?, h.ob]
theorem AmAt.of (h : AmAt w wr t xb sb r f va vr y ox) (i : Nat) : wr.frozen? ⟨xb, i, none⟩ = false := by simp [World.frozen?, h.ob]
theorem AmAt.sc (h : AmAt w wr t xb sb r f va vr y ox) (i : Nat) : wr.cell? ⟨sb, i, none⟩ = (#[I O y.num, .string y.nm, I O y.t.op, I O y.t.num, I O y.t.more, .slice y.t.p y.t.n y.t.c, .slice y.bp y.bn y.bc, I O y.least, I O y.ex, .bool y.needs] : Array Value)[i]? := by simp [World.cell?, h.scb]
end
def AmG (t xb : Nat) (r : RY) (f : RF) (va vr : Value) (ox : Array Value) (w : World) (e : Ending) (w' : World) : Prop :=
 e = .returned (I O 0) ∧ AcAt w' t r f va vr ∧ w'.heap[xb]? = some (.cells ox 60) ∧ But xb w w'
theorem area_true {n : Int} (h0 : 0 ≤ n) (h1 : n ≤ 268435456) : Re.area n = true := by unfold Re.area; simp [h0, h1]
theorem amounts34_any (d t xb : Nat) (r : RY) (l : YLaw) (rf : RF) (va vr : Value) (y : RSx) (s : Sch) (k : Nat) (fa nu D N : Int) (w : World) (hA : AcAt w t r rf va vr) (hY : YV (fun b => b < t) w d r l)
  (hl : YOk l) (hk : l.sch[k]? = some s) (hv : SV (fun b => b < t) w d y s) (hx : w.heap[xb]? = some (.cells #[I O fa, I O nu, I O D, I O N, I O 0, I O 0, I O 0, I O 0, I O 0] 60)) (htx : t < xb) (n0 : 0 ≤ N) (nd : N ≤ D) (d1 : D ≤ 268435456) (hd0 : 0 ≤ rf.day) (hd1 : rf.day ≤ 36864) :
  Calls Tryz.prog 111 #[.pointer (some ⟨t, 0, none⟩), .pointer (some ⟨xb, 0, none⟩), .agg (sCells y).toArray] w (AmG t xb r rf va vr #[I O fa, I O nu, I O D, I O N, I O (paidOf l s D N), I O (ratedOf s (paidOf l s D N)), I O (left l.late rf.day (ratedOf s (paidOf l s D N))), I O 0, I O 0] w) := by
 have hxl : xb < w.heap.size := (Array.getElem?_eq_some_iff.1 hx).1; have htl := hA.lt; have hpb := paidOf_bd hl s n0 nd d1; have h17 := hl.one hk; have hle := hv.least; have hmem : s ∈ l.sch := List.mem_of_getElem? hk; have hz : y.nm.size ≤ 9223372036854775807 := by rw [hv.nm]; exact hY.small s hmem
 have PD := mh (fun (W : World) (hb : Below t w W) => show Calls Tryz.prog 154 #[.slice r.tp l.steps.length r.tc, I O D, I O N] W fun e w' => e = .returned (.tuple #[I O (Re.paidVal l.steps D N), I O 0]) ∧ Below W.heap.size W w' from by
  have := paid_any r.tp l.steps r.tc D N W (hY.lowB hb).steps; have e : Re.paidErr l.steps D N = 0 := by
   unfold Re.paidErr; rw [if_neg (by rw [Re.chk_zero.2 hl.steps]; decide), if_neg (by rw [area_true (by omega) d1, area_true n0 (by omega)]; simp)]
  rw [e] at this
  exact this)
 have PV := mh (show paidOf l s D N = if s.least ≤ N then Re.paidVal l.steps D N else 0 from rfl); obtain ⟨p, ep⟩ : ∃ p, paidOf l s D N = p := ⟨_, rfl⟩; rw [ep] at hpb PV ⊢; have hae : amtE s p = 0 := by unfold amtE; rw [if_neg (by omega), if_neg (by omega)]
 have AM := mh (fun (W : World) (hb : Below t w W) => show Calls Tryz.prog 155 #[.agg #[I O y.num, .string y.nm, I O y.t.op, I O y.t.num, I O y.t.more, .slice y.t.p y.t.n y.t.c, .slice y.bp y.bn y.bc, I O y.least, I O y.ex, .bool y.needs], I O p] W (ChkG (amtV s p, 0) W) from by
  have := amount17_any d y s p W (hv.change (Q' := fun b => b < t) hb.size fun b q _ => ⟨hb.block b q, q⟩) hz; rw [hae] at this
  exact this)
 have ha0 := amt_nonneg h17 p; have ER := mh (show ratedOf s p = min (amtV s p) 68719476736 from rfl); obtain ⟨A, eA⟩ : ∃ A, amtV s p = A := ⟨_, rfl⟩; rw [eA] at AM ha0 ER; obtain ⟨R, eR⟩ : ∃ R, ratedOf s p = R := ⟨_, rfl⟩; rw [eR] at ER ⊢; have hR : 0 ≤ R ∧ R ≤ 68719476736 := by rw [ER.out]; omega
 have PY := mh (fun (W : World) => show Calls Tryz.prog 156 #[.agg #[I O r.due, I O r.last, I O r.mille], I O rf.day, I O R] W (PayG (left l.late rf.day R, 0) W) from by
  have := pay30_any r.due r.last r.mille rf.day R W; have el : (⟨r.due, r.last, r.mille⟩ : Lat) = l.late := by rw [hY.due, hY.last, hY.mille]
  have hlt := hl.late; have e : payE l.late rf.day R = 0 := by
   have h1 := hlt.d0; have h2 := hlt.d1; have h3 := hlt.d2; have h4 := hlt.m0; have h5 := hlt.m1; unfold payE; rw [if_neg (by unfold chkL; rw [if_neg (by omega)]; decide), if_neg (by unfold dayB; simp; omega), if_neg (by omega)]
  rw [el, e] at this; unfold payV at this; rw [if_neg (by rw [e]; decide)] at this
  exact this)
 obtain ⟨TM, eT⟩ : ∃ T, left l.late rf.day R = T := ⟨_, rfl⟩; rw [eT] at PY ⊢; have HTN := mh hY.tn; have HLE := mh hle; obtain ⟨sb, esb⟩ : ∃ b, w.heap.size = b := ⟨_, rfl⟩
 have HM := mh (show AmAt w (w.alloc (.cells #[I O y.num, .string y.nm, I O y.t.op, I O y.t.num, I O y.t.more, .slice y.t.p y.t.n y.t.c, .slice y.bp y.bn y.bc, I O y.least, I O y.ex, .bool y.needs] 101)) t xb sb r rf va vr y #[I O fa, I O nu, I O D, I O N, I O 0, I O 0, I O 0, I O 0, I O 0] from by
  have hb := (brf w.heap.size w).alloc mle (.cells #[I O y.num, .string y.nm, I O y.t.op, I O y.t.num, I O y.t.more, .slice y.t.p y.t.n y.t.c, .slice y.bp y.bn y.bc, I O y.least, I O y.ex, .bool y.needs] 101); rw [← esb]
  exact ⟨hA.below hb htl, (hb.block _ hxl).trans hx, Array.getElem?_push_size, But.of_below hb, hb.mono (by omega), by omega, by omega⟩)
 have hxt : t ≤ xb := by omega
 clear hA hY hv hx hle hz hae eT eR eA ep hl hk hmem h17; simp only [sCells]
 go_enter Tryz.func111, Tryz.ntmps111
 go_wp2_with fail
 generalize w.alloc (.cells #[I O y.num, .string y.nm, I O y.t.op, I O y.t.num, I O y.t.more, .slice y.t.p y.t.n y.t.c, .slice y.bp y.bn y.bc, I O y.least, I O y.ex, .bool y.needs] 101) = w1 at *; have x3 := HM.out.oc 3; have s7 := HM.out.sc 7
 by_cases hge : s.least ≤ N
 ·have hd : decide (y.least ≤ N) = true := dqt (by rw [HLE.out]; exact hge)
  have hp : Re.paidVal l.steps D N = p := by rw [PV.out, if_pos hge]
  rw [hp] at PD; clear hge hp; refine wp_region_quiet_lit (by kernel_rfl) (by kernel_rfl) ?_
  try simp only [List.append_eq, List.cons_append, List.nil_append]
  repeat (go_big_quiet_step (fail))
  refine wpQuiet_nil ?_
  intro _ hwq; obtain ⟨nq, hwr⟩ := hwq; subst hwr; obtain ⟨w2, ew2⟩ : ∃ W, w1.drewN nq = W := ⟨_, rfl⟩; rw [ew2]; have HM2 := mh (show AmAt w w2 t xb sb r rf va vr y #[I O fa, I O nu, I O D, I O N, I O 0, I O 0, I O 0, I O 0, I O 0] from ew2 ▸ HM.out.next (drewN_below _ _)); clear ew2 x3 s7 HM; have KD3 := mh (show w2.drew.cell? ⟨t, 1, none⟩ = some (.slice r.tp l.steps.length r.tc) ∧ w2.drew.cell? ⟨xb, 2, none⟩ = some (I O D) ∧ w2.drew.cell? ⟨xb, 3, none⟩ = some (I O N) from ⟨by rw [← HTN.out]; exact HM2.out.ac.cell 1 _ rfl, HM2.out.oc 2, HM2.out.oc 3⟩)
  go_wp2_with fail
  go_region_held3 (fun w' => w'.cell? ⟨t, 1, none⟩ = some (.slice r.tp l.steps.length r.tc) ∧ w'.cell? ⟨xb, 2, none⟩ = some (I O D) ∧ w'.cell? ⟨xb, 3, none⟩ = some (I O N)) (first | with_reducible exact KD3.out | with_reducible exact K3.out | with_reducible exact K4.out | go_keep) (first
   | (go_at_call 154; (with_reducible refine cmo (PD.out _ HM2.out.below.drew) ?_); rintro e w3 ⟨rfl, hb3⟩; have HM3 := mh ((HM2.out.next (brf _ _).drew).next hb3); have K3 := mh (show w3.cell? ⟨t, 1, none⟩ = some (.slice r.tp l.steps.length r.tc) ∧ w3.cell? ⟨xb, 2, none⟩ = some (I O D) ∧ w3.cell? ⟨xb, 3, none⟩ = some (I O N) from ⟨by rw [← HTN.out]; exact HM3.out.ac.cell 1 _ rfl, HM3.out.oc 2, HM3.out.oc 3⟩); have x4 := HM3.out.oc 4; have x4f := HM3.out.of 4; have HM4 := mh (HM3.out.set hxt 4 (I O p)); have K4 := mh (show (w3.setCell ⟨xb, 4, none⟩ (I O p)).cell? ⟨t, 1, none⟩ = some (.slice r.tp l.steps.length r.tc) ∧ (w3.setCell ⟨xb, 4, none⟩ (I O p)).cell? ⟨xb, 2, none⟩ = some (I O D) ∧ (w3.setCell ⟨xb, 4, none⟩ (I O p)).cell? ⟨xb, 3, none⟩ = some (I O N) from ⟨by rw [← HTN.out]; exact HM4.out.ac.cell 1 _ rfl, HM4.out.oc 2, HM4.out.oc 3⟩); clear hb3)
   | fail)
  have HM4' := mh (show AmAt w (w3.setCell ⟨xb, 4, none⟩ (I O p)) t xb sb r rf va vr y #[I O fa, I O nu, I O D, I O N, I O p, I O 0, I O 0, I O 0, I O 0] from HM4.out); generalize w3.setCell ⟨xb, 4, none⟩ (I O p) = w4 at *; clear x4 x4f K3 KD3; have KD6 := mh (show w4.drew.cell? ⟨xb, 4, none⟩ = some (I O p) ∧ w4.drew.cell? ⟨sb, 0, none⟩ = some (I O y.num) ∧ w4.drew.cell? ⟨sb, 1, none⟩ = some (.string y.nm) ∧ w4.drew.cell? ⟨sb, 2, none⟩ = some (I O y.t.op) ∧ w4.drew.cell? ⟨sb, 3, none⟩ = some (I O y.t.num) ∧ w4.drew.cell? ⟨sb, 4, none⟩ = some (I O y.t.more) ∧ w4.drew.cell? ⟨sb, 5, none⟩ = some (.slice y.t.p y.t.n y.t.c) ∧ w4.drew.cell? ⟨sb, 6, none⟩ = some (.slice y.bp y.bn y.bc) ∧ w4.drew.cell? ⟨sb, 7, none⟩ = some (I O y.least) ∧ w4.drew.cell? ⟨sb, 8, none⟩ = some (I O y.ex) ∧ w4.drew.cell? ⟨sb, 9, none⟩ = some (.bool y.needs) from ⟨HM4'.out.oc 4, HM4'.out.sc 0, HM4'.out.sc 1, HM4'.out.sc 2, HM4'.out.sc 3, HM4'.out.sc 4, HM4'.out.sc 5, HM4'.out.sc 6, HM4'.out.sc 7, HM4'.out.sc 8, HM4'.out.sc 9⟩); have o4 := HM4'.out.oc 4; have x5 := HM4'.out.oc 5; have x5f := HM4'.out.of 5
  go_wp2_with fail
  go_region_held3 (fun w' => w'.cell? ⟨xb, 4, none⟩ = some (I O p) ∧ w'.cell? ⟨sb, 0, none⟩ = some (I O y.num) ∧ w'.cell? ⟨sb, 1, none⟩ = some (.string y.nm) ∧ w'.cell? ⟨sb, 2, none⟩ = some (I O y.t.op) ∧ w'.cell? ⟨sb, 3, none⟩ = some (I O y.t.num) ∧ w'.cell? ⟨sb, 4, none⟩ = some (I O y.t.more) ∧ w'.cell? ⟨sb, 5, none⟩ = some (.slice y.t.p y.t.n y.t.c) ∧ w'.cell? ⟨sb, 6, none⟩ = some (.slice y.bp y.bn y.bc) ∧ w'.cell? ⟨sb, 7, none⟩ = some (I O y.least) ∧ w'.cell? ⟨sb, 8, none⟩ = some (I O y.ex) ∧ w'.cell? ⟨sb, 9, none⟩ = some (.bool y.needs)) (first | with_reducible exact KD6.out | with_reducible exact K7.out | with_reducible exact K8.out | go_keep) (first
   | (go_at_call 155; (with_reducible refine cmo (AM.out _ HM4'.out.below.drew) ?_); rintro e w7 ⟨rfl, hb7⟩; have HM7 := mh ((HM4'.out.next (brf _ _).drew).next hb7); have K7 := mh ((kd hb7 <| kd hb7 <| kc hb7 <| kc hb7 <| k1 hb7) KD6.out); have z5 := HM7.out.oc 5; have z5f := HM7.out.of 5; have HM8 := mh (HM7.out.set hxt 5 (I O A)); have K8 := mh (show (w7.setCell ⟨xb, 5, none⟩ (I O A)).cell? ⟨xb, 4, none⟩ = some (I O p) ∧ (w7.setCell ⟨xb, 5, none⟩ (I O A)).cell? ⟨sb, 0, none⟩ = some (I O y.num) ∧ (w7.setCell ⟨xb, 5, none⟩ (I O A)).cell? ⟨sb, 1, none⟩ = some (.string y.nm) ∧ (w7.setCell ⟨xb, 5, none⟩ (I O A)).cell? ⟨sb, 2, none⟩ = some (I O y.t.op) ∧ (w7.setCell ⟨xb, 5, none⟩ (I O A)).cell? ⟨sb, 3, none⟩ = some (I O y.t.num) ∧ (w7.setCell ⟨xb, 5, none⟩ (I O A)).cell? ⟨sb, 4, none⟩ = some (I O y.t.more) ∧ (w7.setCell ⟨xb, 5, none⟩ (I O A)).cell? ⟨sb, 5, none⟩ = some (.slice y.t.p y.t.n y.t.c) ∧ (w7.setCell ⟨xb, 5, none⟩ (I O A)).cell? ⟨sb, 6, none⟩ = some (.slice y.bp y.bn y.bc) ∧ (w7.setCell ⟨xb, 5, none⟩ (I O A)).cell? ⟨sb, 7, none⟩ = some (I O y.least) ∧ (w7.setCell ⟨xb, 5, none⟩ (I O A)).cell? ⟨sb, 8, none⟩ = some (I O y.ex) ∧ (w7.setCell ⟨xb, 5, none⟩ (I O A)).cell? ⟨sb, 9, none⟩ = some (.bool y.needs) from ⟨HM8.out.oc 4, HM8.out.sc 0, HM8.out.sc 1, HM8.out.sc 2, HM8.out.sc 3, HM8.out.sc 4, HM8.out.sc 5, HM8.out.sc 6, HM8.out.sc 7, HM8.out.sc 8, HM8.out.sc 9⟩); clear hb7)
   | fail)
  have HM8' := mh (show AmAt w (w7.setCell ⟨xb, 5, none⟩ (I O A)) t xb sb r rf va vr y #[I O fa, I O nu, I O D, I O N, I O p, I O A, I O 0, I O 0, I O 0] from HM8.out); generalize w7.setCell ⟨xb, 5, none⟩ (I O A) = w8 at *; have v5 := HM8'.out.oc 5; have v5f := HM8'.out.of 5; clear z5 z5f K7 KD6 o4 x5 x5f
  go_wp2_with fail
  rw [show min A 68719476736 = R from ER.out.symm]; have HM9 := mh (show AmAt w (w8.setCell ⟨xb, 5, none⟩ (I O R)) t xb sb r rf va vr y #[I O fa, I O nu, I O D, I O N, I O p, I O R, I O 0, I O 0, I O 0] from HM8'.out.set hxt 5 _); generalize w8.setCell ⟨xb, 5, none⟩ (I O R) = w9 at *; clear v5 v5f; have KDA := mh (show w9.drew.cell? ⟨t, 2, none⟩ = some (I O r.due) ∧ w9.drew.cell? ⟨t, 3, none⟩ = some (I O r.last) ∧ w9.drew.cell? ⟨t, 4, none⟩ = some (I O r.mille) ∧ w9.drew.cell? ⟨t, 11, none⟩ = some (I O rf.day) ∧ w9.drew.cell? ⟨xb, 5, none⟩ = some (I O R) from ⟨HM9.out.ac.cell 2 _ rfl, HM9.out.ac.cell 3 _ rfl, HM9.out.ac.cell 4 _ rfl, HM9.out.ac.cell 11 _ rfl, HM9.out.oc 5⟩)
  go_region_held3 (fun w' => w'.cell? ⟨t, 2, none⟩ = some (I O r.due) ∧ w'.cell? ⟨t, 3, none⟩ = some (I O r.last) ∧ w'.cell? ⟨t, 4, none⟩ = some (I O r.mille) ∧ w'.cell? ⟨t, 11, none⟩ = some (I O rf.day) ∧ w'.cell? ⟨xb, 5, none⟩ = some (I O R)) (first | with_reducible exact KDA.out | with_reducible exact KB.out | with_reducible exact KC.out | go_keep) (first
   | (go_at_call 156; (with_reducible refine cmo (PY.out _) ?_); rintro e wa ⟨rfl, hba⟩; have HMA := mh ((HM9.out.next (brf _ _).drew).next hba); have KB := mh ((kd hba <| k1 hba) KDA.out); have x6 := HMA.out.oc 6; have x6f := HMA.out.of 6; have HMB := mh (HMA.out.set hxt 6 (I O TM)); have KC := mh (show (wa.setCell ⟨xb, 6, none⟩ (I O TM)).cell? ⟨t, 2, none⟩ = some (I O r.due) ∧ (wa.setCell ⟨xb, 6, none⟩ (I O TM)).cell? ⟨t, 3, none⟩ = some (I O r.last) ∧ (wa.setCell ⟨xb, 6, none⟩ (I O TM)).cell? ⟨t, 4, none⟩ = some (I O r.mille) ∧ (wa.setCell ⟨xb, 6, none⟩ (I O TM)).cell? ⟨t, 11, none⟩ = some (I O rf.day) ∧ (wa.setCell ⟨xb, 6, none⟩ (I O TM)).cell? ⟨xb, 5, none⟩ = some (I O R) from ⟨HMB.out.ac.cell 2 _ rfl, HMB.out.ac.cell 3 _ rfl, HMB.out.ac.cell 4 _ rfl, HMB.out.ac.cell 11 _ rfl, HMB.out.oc 5⟩); clear hba)
   | fail)
  have HMB' := mh (show AmAt w (wa.setCell ⟨xb, 6, none⟩ (I O TM)) t xb sb r rf va vr y #[I O fa, I O nu, I O D, I O N, I O p, I O R, I O TM, I O 0, I O 0] from HMB.out); generalize wa.setCell ⟨xb, 6, none⟩ (I O TM) = wb at *; clear x6 x6f KB KDA
  go_wp2
  go_ret
  exact ⟨rfl, HMB'.out.ac, HMB'.out.ob, HMB'.out.but⟩
 ·have hd : decide (y.least ≤ N) = false := dqf (by rw [HLE.out]; exact hge)
  obtain rfl : p = 0 := by rw [PV.out, if_neg hge]
  clear hge; refine wp_region_quiet_lit (by kernel_rfl) (by kernel_rfl) ?_
  try simp only [List.append_eq, List.cons_append, List.nil_append]
  repeat (go_big_quiet_step (fail))
  refine wpQuiet_nil ?_
  intro _ hwq; obtain ⟨nq, hwr⟩ := hwq; subst hwr; obtain ⟨w2, ew2⟩ : ∃ W, w1.drewN nq = W := ⟨_, rfl⟩; rw [ew2]; have HM2 := mh (show AmAt w w2 t xb sb r rf va vr y #[I O fa, I O nu, I O D, I O N, I O 0, I O 0, I O 0, I O 0, I O 0] from ew2 ▸ HM.out.next (drewN_below _ _)); clear ew2 x3 s7 HM
  go_wp2_with fail
  have KD6 := mh (show w2.drew.cell? ⟨xb, 4, none⟩ = some (I O 0) ∧ w2.drew.cell? ⟨sb, 0, none⟩ = some (I O y.num) ∧ w2.drew.cell? ⟨sb, 1, none⟩ = some (.string y.nm) ∧ w2.drew.cell? ⟨sb, 2, none⟩ = some (I O y.t.op) ∧ w2.drew.cell? ⟨sb, 3, none⟩ = some (I O y.t.num) ∧ w2.drew.cell? ⟨sb, 4, none⟩ = some (I O y.t.more) ∧ w2.drew.cell? ⟨sb, 5, none⟩ = some (.slice y.t.p y.t.n y.t.c) ∧ w2.drew.cell? ⟨sb, 6, none⟩ = some (.slice y.bp y.bn y.bc) ∧ w2.drew.cell? ⟨sb, 7, none⟩ = some (I O y.least) ∧ w2.drew.cell? ⟨sb, 8, none⟩ = some (I O y.ex) ∧ w2.drew.cell? ⟨sb, 9, none⟩ = some (.bool y.needs) from ⟨HM2.out.oc 4, HM2.out.sc 0, HM2.out.sc 1, HM2.out.sc 2, HM2.out.sc 3, HM2.out.sc 4, HM2.out.sc 5, HM2.out.sc 6, HM2.out.sc 7, HM2.out.sc 8, HM2.out.sc 9⟩); have o4 := HM2.out.oc 4; have x5 := HM2.out.oc 5; have x5f := HM2.out.of 5
  go_wp2_with fail
  go_region_held3 (fun w' => w'.cell? ⟨xb, 4, none⟩ = some (I O 0) ∧ w'.cell? ⟨sb, 0, none⟩ = some (I O y.num) ∧ w'.cell? ⟨sb, 1, none⟩ = some (.string y.nm) ∧ w'.cell? ⟨sb, 2, none⟩ = some (I O y.t.op) ∧ w'.cell? ⟨sb, 3, none⟩ = some (I O y.t.num) ∧ w'.cell? ⟨sb, 4, none⟩ = some (I O y.t.more) ∧ w'.cell? ⟨sb, 5, none⟩ = some (.slice y.t.p y.t.n y.t.c) ∧ w'.cell? ⟨sb, 6, none⟩ = some (.slice y.bp y.bn y.bc) ∧ w'.cell? ⟨sb, 7, none⟩ = some (I O y.least) ∧ w'.cell? ⟨sb, 8, none⟩ = some (I O y.ex) ∧ w'.cell? ⟨sb, 9, none⟩ = some (.bool y.needs)) (first | with_reducible exact KD6.out | with_reducible exact K7.out | with_reducible exact K8.out | go_keep) (first
   | (go_at_call 155; (with_reducible refine cmo (AM.out _ HM2.out.below.drew) ?_); rintro e w7 ⟨rfl, hb7⟩; have HM7 := mh ((HM2.out.next (brf _ _).drew).next hb7); have K7 := mh ((kd hb7 <| kd hb7 <| kc hb7 <| kc hb7 <| k1 hb7) KD6.out); have z5 := HM7.out.oc 5; have z5f := HM7.out.of 5; have HM8 := mh (HM7.out.set hxt 5 (I O A)); have K8 := mh (show (w7.setCell ⟨xb, 5, none⟩ (I O A)).cell? ⟨xb, 4, none⟩ = some (I O 0) ∧ (w7.setCell ⟨xb, 5, none⟩ (I O A)).cell? ⟨sb, 0, none⟩ = some (I O y.num) ∧ (w7.setCell ⟨xb, 5, none⟩ (I O A)).cell? ⟨sb, 1, none⟩ = some (.string y.nm) ∧ (w7.setCell ⟨xb, 5, none⟩ (I O A)).cell? ⟨sb, 2, none⟩ = some (I O y.t.op) ∧ (w7.setCell ⟨xb, 5, none⟩ (I O A)).cell? ⟨sb, 3, none⟩ = some (I O y.t.num) ∧ (w7.setCell ⟨xb, 5, none⟩ (I O A)).cell? ⟨sb, 4, none⟩ = some (I O y.t.more) ∧ (w7.setCell ⟨xb, 5, none⟩ (I O A)).cell? ⟨sb, 5, none⟩ = some (.slice y.t.p y.t.n y.t.c) ∧ (w7.setCell ⟨xb, 5, none⟩ (I O A)).cell? ⟨sb, 6, none⟩ = some (.slice y.bp y.bn y.bc) ∧ (w7.setCell ⟨xb, 5, none⟩ (I O A)).cell? ⟨sb, 7, none⟩ = some (I O y.least) ∧ (w7.setCell ⟨xb, 5, none⟩ (I O A)).cell? ⟨sb, 8, none⟩ = some (I O y.ex) ∧ (w7.setCell ⟨xb, 5, none⟩ (I O A)).cell? ⟨sb, 9, none⟩ = some (.bool y.needs) from ⟨HM8.out.oc 4, HM8.out.sc 0, HM8.out.sc 1, HM8.out.sc 2, HM8.out.sc 3, HM8.out.sc 4, HM8.out.sc 5, HM8.out.sc 6, HM8.out.sc 7, HM8.out.sc 8, HM8.out.sc 9⟩); clear hb7)
   | fail)
  have HM8' := mh (show AmAt w (w7.setCell ⟨xb, 5, none⟩ (I O A)) t xb sb r rf va vr y #[I O fa, I O nu, I O D, I O N, I O 0, I O A, I O 0, I O 0, I O 0] from HM8.out); generalize w7.setCell ⟨xb, 5, none⟩ (I O A) = w8 at *; have v5 := HM8'.out.oc 5; have v5f := HM8'.out.of 5; clear z5 z5f K7 KD6 o4 x5 x5f
  go_wp2_with fail
  rw [show min A 68719476736 = R from ER.out.symm]; have HM9 := mh (show AmAt w (w8.setCell ⟨xb, 5, none⟩ (I O R)) t xb sb r rf va vr y #[I O fa, I O nu, I O D, I O N, I O 0, I O R, I O 0, I O 0, I O 0] from HM8'.out.set hxt 5 _); generalize w8.setCell ⟨xb, 5, none⟩ (I O R) = w9 at *; clear v5 v5f; have KDA := mh (show w9.drew.cell? ⟨t, 2, none⟩ = some (I O r.due) ∧ w9.drew.cell? ⟨t, 3, none⟩ = some (I O r.last) ∧ w9.drew.cell? ⟨t, 4, none⟩ = some (I O r.mille) ∧ w9.drew.cell? ⟨t, 11, none⟩ = some (I O rf.day) ∧ w9.drew.cell? ⟨xb, 5, none⟩ = some (I O R) from ⟨HM9.out.ac.cell 2 _ rfl, HM9.out.ac.cell 3 _ rfl, HM9.out.ac.cell 4 _ rfl, HM9.out.ac.cell 11 _ rfl, HM9.out.oc 5⟩)
  go_region_held3 (fun w' => w'.cell? ⟨t, 2, none⟩ = some (I O r.due) ∧ w'.cell? ⟨t, 3, none⟩ = some (I O r.last) ∧ w'.cell? ⟨t, 4, none⟩ = some (I O r.mille) ∧ w'.cell? ⟨t, 11, none⟩ = some (I O rf.day) ∧ w'.cell? ⟨xb, 5, none⟩ = some (I O R)) (first | with_reducible exact KDA.out | with_reducible exact KB.out | with_reducible exact KC.out | go_keep) (first
   | (go_at_call 156; (with_reducible refine cmo (PY.out _) ?_); rintro e wa ⟨rfl, hba⟩; have HMA := mh ((HM9.out.next (brf _ _).drew).next hba); have KB := mh ((kd hba <| k1 hba) KDA.out); have x6 := HMA.out.oc 6; have x6f := HMA.out.of 6; have HMB := mh (HMA.out.set hxt 6 (I O TM)); have KC := mh (show (wa.setCell ⟨xb, 6, none⟩ (I O TM)).cell? ⟨t, 2, none⟩ = some (I O r.due) ∧ (wa.setCell ⟨xb, 6, none⟩ (I O TM)).cell? ⟨t, 3, none⟩ = some (I O r.last) ∧ (wa.setCell ⟨xb, 6, none⟩ (I O TM)).cell? ⟨t, 4, none⟩ = some (I O r.mille) ∧ (wa.setCell ⟨xb, 6, none⟩ (I O TM)).cell? ⟨t, 11, none⟩ = some (I O rf.day) ∧ (wa.setCell ⟨xb, 6, none⟩ (I O TM)).cell? ⟨xb, 5, none⟩ = some (I O R) from ⟨HMB.out.ac.cell 2 _ rfl, HMB.out.ac.cell 3 _ rfl, HMB.out.ac.cell 4 _ rfl, HMB.out.ac.cell 11 _ rfl, HMB.out.oc 5⟩); clear hba)
   | fail)
  have HMB' := mh (show AmAt w (wa.setCell ⟨xb, 6, none⟩ (I O TM)) t xb sb r rf va vr y #[I O fa, I O nu, I O D, I O N, I O 0, I O R, I O TM, I O 0, I O 0] from HMB.out); generalize wa.setCell ⟨xb, 6, none⟩ (I O TM) = wb at *; clear x6 x6f KB KDA
  go_wp2
  go_ret
  exact ⟨rfl, HMB'.out.ac, HMB'.out.ob, HMB'.out.but⟩
end Go.Proofs.YtmlfcpglhipjgaaGreat
