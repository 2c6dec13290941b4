/-
  PACKED (pack8.py): what is needed of the texts T23, T28, Q7.
-/
import Derived.Test.YtmlfcpglhipjgaaGreatM12
import Derived.Test.YtmlfcpglhipjgaaGreatM18
set_option maxRecDepth 100000
set_option maxHeartbeats 3000000
open Go.Value renaming int → I
open Go.IntKind renaming i64 → O
namespace Go.Proofs.YtmlfcpglhipjgaaGreat
open Go.RowKit Te Sc
theorem refone_any {Q : Nat → Prop} (d : Nat) (r : RSx) (s : Sch) (w : World) (h : SV Q w d r s) (hz : r.nm.size ≤ 9223372036854775807) (hc : count s.cond ≤ 1099511627776) :
  Calls Tryz.prog 100 #[.agg #[I O r.num, .string r.nm, I O r.t.op, I O r.t.num, I O r.t.more, .slice r.t.p r.t.n r.t.c, .slice r.bp r.bn r.bc, I O r.least, I O r.ex, .bool r.needs]] w (IntG (one17 s) w) := by
 have hA : Below w.heap.size w (w.alloc (.cells #[I O r.num, .string r.nm, I O r.t.op, I O r.t.num, I O r.t.more, .slice r.t.p r.t.n r.t.c, .slice r.bp r.bn r.bc, I O r.least, I O r.ex, .bool r.needs] 101)) := (brf _ _).alloc mle _; have NM := mh (show ∀ W, Calls Tryz.prog 136 #[.string r.nm] W (fun e w' => e = .returned (.bool (Wo.nameB s.nm.data.toList)) ∧ W = w') from fun W => h.nm ▸ refname_any r.nm W hz); have CK := mh (refcheck16_any d r.t s.cond _ (h.below hA).t hc); have BK := mh (fun (W : World) (hW : Below w.heap.size w W) => show Calls Tryz.prog 138 #[.slice r.bp r.bn r.bc] W (BoolG (brB s.br) W) from refbrackets_any r.bp s.br r.bn r.bc W h.bn (h.below hW).br); obtain ⟨v, ev⟩ : ∃ v, one17 s = v := ⟨_, rfl⟩; have OC := one_cases (show oneV r.num r.least r.ex (Wo.nameB s.nm.data.toList) (chkT s.cond) (brB s.br) (bitB r.ex r.num) = v from by rw [← ev, h.num, h.least, h.ex]; rfl); rw [ev]; obtain ⟨nb, enb⟩ : ∃ x, Wo.nameB s.nm.data.toList = x := ⟨_, rfl⟩; obtain ⟨ck, eck⟩ : ∃ x, chkT s.cond = x := ⟨_, rfl⟩; obtain ⟨bb, ebb⟩ : ∃ x, brB s.br = x := ⟨_, rfl⟩; rw [enb] at NM OC; rw [eck] at CK OC; rw [ebb] at BK OC; clear enb eck ebb h ev hz hc; obtain ⟨num, nm, ⟨o, tn, tm, tp, tl, tc⟩, bp, bn, bc, least, ex, needs⟩ := r; have HA := mh hA; clear hA; have HA0 := mh (show w.heap.size < (w.alloc (.cells #[I O num, .string nm, I O o, I O tn, I O tm, .slice tp tl tc, .slice bp bn bc, I O least, I O ex, .bool needs] 101)).heap.size by simp); obtain ⟨bit, ebit⟩ : ∃ x, bitB ex num = x := ⟨_, rfl⟩; have EB : (bits BinOp.and IntKind.i64 (ex / 2 ^ num.toNat) 1 == 1) = bit := by rw [bit_one, ebit]
 simp only [ebit] at OC; clear ebit; obtain ⟨O1, O2, O3, O4, O5⟩ := OC
 replace O1 := mh O1
 replace O2 := mh O2
 replace O3 := mh O3
 replace O4 := mh O4
 replace O5 := mh O5
 by_cases g : num < 0 ∨ 15 < num ∨ least < 0 ∨ 268435456 < least
 ·have HV := mh (O1.out g)
  have G := mh g; clear g
  by_cases g1 : num < 0
  ·go_enter Tryz.func100, Tryz.ntmps100
   go_wp2_with (fail)
   go_ret
   exact ⟨ret_int HV.out.symm, HA.out⟩
  by_cases g2 : 15 < num
  ·go_enter Tryz.func100, Tryz.ntmps100
   go_wp2_with (fail)
   go_ret
   exact ⟨ret_int HV.out.symm, HA.out⟩
  by_cases g3 : least < 0
  ·go_enter Tryz.func100, Tryz.ntmps100
   go_wp2_with (fail)
   go_ret
   exact ⟨ret_int HV.out.symm, HA.out⟩
  have g4 : 268435456 < least := by have := G.out; omega
  ·go_enter Tryz.func100, Tryz.ntmps100
   go_wp2_with (fail)
   go_ret
   exact ⟨ret_int HV.out.symm, HA.out⟩
 ·have hn0 : 0 ≤ num := by omega
  have hn1 : num ≤ 15 := by omega
  have hl0 : 0 ≤ least := by omega
  have hl1 : least ≤ 268435456 := by omega
  have G := mh g; clear g
  cases nb
  ·have HV := mh (O2.out G.out rfl)
   go_enter Tryz.func100, Tryz.ntmps100
   go_wp2_with (first | (go_at_call 136; (with_reducible refine cmo (NM.out _) ?_); rintro e w1 ⟨rfl, rfl⟩) | (go_at_call 137; (with_reducible refine cmo CK.out ?_); rintro e w2 ⟨rfl, hb2⟩; have HS2 := mh (show w.heap.size < w2.heap.size from nll HA0.out hb2.size); have BK1 := mh (BK.out _ (bstep mle HA.out hb2)); have HB2 := mh (bstep mle HA.out hb2); have hk0 := mcell hb2 0; have hk1 := mcell hb2 1; have hk2 := mcell hb2 2; have hk3 := mcell hb2 3; have hk4 := mcell hb2 4; have hk5 := mcell hb2 5; have hk6 := mcell hb2 6; have hk7 := mcell hb2 7; have hk8 := mcell hb2 8; have hk9 := mcell hb2 9; clear hb2) | (go_at_call 138; (with_reducible refine cmo BK1.out ?_); rintro e w3 ⟨rfl, hb3⟩; have hj0 := (hb3.cell (p := ⟨w.heap.size, 0, none⟩) (by have := HS2.out; omega)).trans hk0; have hj8 := (hb3.cell (p := ⟨w.heap.size, 8, none⟩) (by have := HS2.out; omega)).trans hk8; have HB3 := mh (bstep mle HB2.out hb3); clear hb3))
   go_ret
   exact ⟨ret_int HV.out.symm, HA.out⟩
  by_cases c0 : ck = 0
  ·have CZ : (ck == 0) = true := by rw [c0]; rfl
   subst c0
   cases bb
   ·have HV := mh (O4.out G.out rfl rfl (.inl rfl))
    go_enter Tryz.func100, Tryz.ntmps100
    go_wp2_with (first | (go_at_call 136; (with_reducible refine cmo (NM.out _) ?_); rintro e w1 ⟨rfl, rfl⟩) | (go_at_call 137; (with_reducible refine cmo CK.out ?_); rintro e w2 ⟨rfl, hb2⟩; have HS2 := mh (show w.heap.size < w2.heap.size from nll HA0.out hb2.size); have BK1 := mh (BK.out _ (bstep mle HA.out hb2)); have HB2 := mh (bstep mle HA.out hb2); have hk0 := mcell hb2 0; have hk1 := mcell hb2 1; have hk2 := mcell hb2 2; have hk3 := mcell hb2 3; have hk4 := mcell hb2 4; have hk5 := mcell hb2 5; have hk6 := mcell hb2 6; have hk7 := mcell hb2 7; have hk8 := mcell hb2 8; have hk9 := mcell hb2 9; clear hb2) | (go_at_call 138; (with_reducible refine cmo BK1.out ?_); rintro e w3 ⟨rfl, hb3⟩; have hj0 := (hb3.cell (p := ⟨w.heap.size, 0, none⟩) (by have := HS2.out; omega)).trans hk0; have hj8 := (hb3.cell (p := ⟨w.heap.size, 8, none⟩) (by have := HS2.out; omega)).trans hk8; have HB3 := mh (bstep mle HB2.out hb3); clear hb3))
    go_ret
    exact ⟨ret_int HV.out.symm, HB3.out⟩
   by_cases e1 : ex < 0
   ·have HV := mh (O4.out G.out rfl rfl (.inr (.inl e1)))
    go_enter Tryz.func100, Tryz.ntmps100
    go_wp2_with (first | (go_at_call 136; (with_reducible refine cmo (NM.out _) ?_); rintro e w1 ⟨rfl, rfl⟩) | (go_at_call 137; (with_reducible refine cmo CK.out ?_); rintro e w2 ⟨rfl, hb2⟩; have HS2 := mh (show w.heap.size < w2.heap.size from nll HA0.out hb2.size); have BK1 := mh (BK.out _ (bstep mle HA.out hb2)); have HB2 := mh (bstep mle HA.out hb2); have hk0 := mcell hb2 0; have hk1 := mcell hb2 1; have hk2 := mcell hb2 2; have hk3 := mcell hb2 3; have hk4 := mcell hb2 4; have hk5 := mcell hb2 5; have hk6 := mcell hb2 6; have hk7 := mcell hb2 7; have hk8 := mcell hb2 8; have hk9 := mcell hb2 9; clear hb2) | (go_at_call 138; (with_reducible refine cmo BK1.out ?_); rintro e w3 ⟨rfl, hb3⟩; have hj0 := (hb3.cell (p := ⟨w.heap.size, 0, none⟩) (by have := HS2.out; omega)).trans hk0; have hj8 := (hb3.cell (p := ⟨w.heap.size, 8, none⟩) (by have := HS2.out; omega)).trans hk8; have HB3 := mh (bstep mle HB2.out hb3); clear hb3))
    go_ret
    exact ⟨ret_int HV.out.symm, HB3.out⟩
   by_cases e2 : 65536 ≤ ex
   ·have HV := mh (O4.out G.out rfl rfl (.inr (.inr (.inl e2))))
    go_enter Tryz.func100, Tryz.ntmps100
    go_wp2_with (first | (go_at_call 136; (with_reducible refine cmo (NM.out _) ?_); rintro e w1 ⟨rfl, rfl⟩) | (go_at_call 137; (with_reducible refine cmo CK.out ?_); rintro e w2 ⟨rfl, hb2⟩; have HS2 := mh (show w.heap.size < w2.heap.size from nll HA0.out hb2.size); have BK1 := mh (BK.out _ (bstep mle HA.out hb2)); have HB2 := mh (bstep mle HA.out hb2); have hk0 := mcell hb2 0; have hk1 := mcell hb2 1; have hk2 := mcell hb2 2; have hk3 := mcell hb2 3; have hk4 := mcell hb2 4; have hk5 := mcell hb2 5; have hk6 := mcell hb2 6; have hk7 := mcell hb2 7; have hk8 := mcell hb2 8; have hk9 := mcell hb2 9; clear hb2) | (go_at_call 138; (with_reducible refine cmo BK1.out ?_); rintro e w3 ⟨rfl, hb3⟩; have hj0 := (hb3.cell (p := ⟨w.heap.size, 0, none⟩) (by have := HS2.out; omega)).trans hk0; have hj8 := (hb3.cell (p := ⟨w.heap.size, 8, none⟩) (by have := HS2.out; omega)).trans hk8; have HB3 := mh (bstep mle HB2.out hb3); clear hb3))
    go_ret
    exact ⟨ret_int HV.out.symm, HB3.out⟩
   cases bit
   ·have HV := mh (O5.out G.out rfl rfl (by simp; omega))
    go_enter Tryz.func100, Tryz.ntmps100
    go_wp2_with (first | (go_at_call 136; (with_reducible refine cmo (NM.out _) ?_); rintro e w1 ⟨rfl, rfl⟩) | (go_at_call 137; (with_reducible refine cmo CK.out ?_); rintro e w2 ⟨rfl, hb2⟩; have HS2 := mh (show w.heap.size < w2.heap.size from nll HA0.out hb2.size); have BK1 := mh (BK.out _ (bstep mle HA.out hb2)); have HB2 := mh (bstep mle HA.out hb2); have hk0 := mcell hb2 0; have hk1 := mcell hb2 1; have hk2 := mcell hb2 2; have hk3 := mcell hb2 3; have hk4 := mcell hb2 4; have hk5 := mcell hb2 5; have hk6 := mcell hb2 6; have hk7 := mcell hb2 7; have hk8 := mcell hb2 8; have hk9 := mcell hb2 9; clear hb2) | (go_at_call 138; (with_reducible refine cmo BK1.out ?_); rintro e w3 ⟨rfl, hb3⟩; have hj0 := (hb3.cell (p := ⟨w.heap.size, 0, none⟩) (by have := HS2.out; omega)).trans hk0; have hj8 := (hb3.cell (p := ⟨w.heap.size, 8, none⟩) (by have := HS2.out; omega)).trans hk8; have HB3 := mh (bstep mle HB2.out hb3); clear hb3))
    go_ret
    exact ⟨ret_int HV.out.symm, HB3.out⟩
   ·have HV := mh (O4.out G.out rfl rfl (.inr (.inr (.inr rfl))))
    go_enter Tryz.func100, Tryz.ntmps100
    go_wp2_with (first | (go_at_call 136; (with_reducible refine cmo (NM.out _) ?_); rintro e w1 ⟨rfl, rfl⟩) | (go_at_call 137; (with_reducible refine cmo CK.out ?_); rintro e w2 ⟨rfl, hb2⟩; have HS2 := mh (show w.heap.size < w2.heap.size from nll HA0.out hb2.size); have BK1 := mh (BK.out _ (bstep mle HA.out hb2)); have HB2 := mh (bstep mle HA.out hb2); have hk0 := mcell hb2 0; have hk1 := mcell hb2 1; have hk2 := mcell hb2 2; have hk3 := mcell hb2 3; have hk4 := mcell hb2 4; have hk5 := mcell hb2 5; have hk6 := mcell hb2 6; have hk7 := mcell hb2 7; have hk8 := mcell hb2 8; have hk9 := mcell hb2 9; clear hb2) | (go_at_call 138; (with_reducible refine cmo BK1.out ?_); rintro e w3 ⟨rfl, hb3⟩; have hj0 := (hb3.cell (p := ⟨w.heap.size, 0, none⟩) (by have := HS2.out; omega)).trans hk0; have hj8 := (hb3.cell (p := ⟨w.heap.size, 8, none⟩) (by have := HS2.out; omega)).trans hk8; have HB3 := mh (bstep mle HB2.out hb3); clear hb3))
    go_ret
    exact ⟨ret_int HV.out.symm, HB3.out⟩
  ·have HV := mh (O3.out G.out rfl c0)
   go_enter Tryz.func100, Tryz.ntmps100
   go_wp2_with (first | (go_at_call 136; (with_reducible refine cmo (NM.out _) ?_); rintro e w1 ⟨rfl, rfl⟩) | (go_at_call 137; (with_reducible refine cmo CK.out ?_); rintro e w2 ⟨rfl, hb2⟩; have HS2 := mh (show w.heap.size < w2.heap.size from nll HA0.out hb2.size); have BK1 := mh (BK.out _ (bstep mle HA.out hb2)); have HB2 := mh (bstep mle HA.out hb2); have hk0 := mcell hb2 0; have hk1 := mcell hb2 1; have hk2 := mcell hb2 2; have hk3 := mcell hb2 3; have hk4 := mcell hb2 4; have hk5 := mcell hb2 5; have hk6 := mcell hb2 6; have hk7 := mcell hb2 7; have hk8 := mcell hb2 8; have hk9 := mcell hb2 9; clear hb2) | (go_at_call 138; (with_reducible refine cmo BK1.out ?_); rintro e w3 ⟨rfl, hb3⟩; have hj0 := (hb3.cell (p := ⟨w.heap.size, 0, none⟩) (by have := HS2.out; omega)).trans hk0; have hj8 := (hb3.cell (p := ⟨w.heap.size, 8, none⟩) (by have := HS2.out; omega)).trans hk8; have HB3 := mh (bstep mle HB2.out hb3); clear hb3))
   go_ret
   exact ⟨ret_int HV.out.symm, HB2.out⟩
theorem one_br {s : Sch} (h : one17 s = 0) : brB s.br = true := by
 unfold one17 at h
 split at h
 ·cases h
 split at h
 ·cases h
 split at h
 ·rename_i h1; exact absurd h h1
 split at h
 ·cases h
 ·rename_i h1
  cases e : brB s.br
  ·exact absurd (.inl e) h1
  ·rfl
theorem amt_succ {l : List Brk} {sq : Int} {k : Nat} (hk : k < l.length) : amt l sq (k + 1) = amt l sq k + max 0 (min sq l[k].up - upB l k) * l[k].rate := by
 show amt l sq k + (match l[k]? with | some b => max 0 (min sq b.up - upB l k) * b.rate | none => 0) = _
 rw [List.getElem?_eq_getElem hk]
theorem br_right {l : List Brk} {k : Nat} (hk : k < l.length) (h : brAll l (k + 1) = true) : upB l k < l[k].up ∧ l[k].up ≤ 268435456 ∧ 0 ≤ l[k].rate ∧ l[k].rate ≤ 1048576 ∧ 0 ≤ upB l k := by
 have h2 := h; rw [brAll_succ, Bool.and_eq_true] at h2; have h3 := h2.2; rw [brAt_some hk, Bool.and_eq_true, Bool.and_eq_true, Bool.and_eq_true, decide_eq_true_eq, decide_eq_true_eq, decide_eq_true_eq, decide_eq_true_eq] at h3; exact ⟨h3.1, h3.2.1, h3.2.2.1, h3.2.2.2, upB_nonneg (by omega) h2.1⟩
theorem part_le {a b r : Int} (h0 : 0 ≤ a) (h1 : a ≤ b) (h2 : 0 ≤ r) (h3 : r ≤ 1048576) : 0 ≤ a * r ∧ a * r ≤ 1048576 * b := by
 refine ⟨Int.mul_nonneg h0 h2, ?_⟩
 have e1 : a * r ≤ a * 1048576 := Int.mul_le_mul_of_nonneg_left h3 h0; omega
theorem amt_le {l : List Brk} {sq : Int} {k : Nat} (hk : k ≤ l.length) (h : brAll l k = true) : 0 ≤ amt l sq k ∧ amt l sq k ≤ 1048576 * upB l k := by
 induction k with
 | zero => exact ⟨Int.le_refl _, by unfold upB; simp [amt]⟩
 | succ k ih =>
   have hk' : k < l.length := by omega
   have h1 := ih (by omega) (brAll_mono (Nat.le_succ k) h); obtain ⟨b1, b2, b3, b4, b5⟩ := br_right hk' h; rw [amt_succ hk', upB_succ hk']; have h2 := part_le (a := max 0 (min sq l[k].up - upB l k)) (b := l[k].up - upB l k) (by omega) (by omega) b3 b4; omega
theorem upB_le {l : List Brk} {k : Nat} (hk : k ≤ l.length) (h : brAll l k = true) : upB l k ≤ 268435456 := by
 cases k with
 | zero => unfold upB; simp
 | succ k => rw [upB_succ (by omega)]; exact (br_right (by omega) h).2.1
theorem amtE_zero {s : Sch} {sq : Int} (h : one17 s = 0) (h0 : 0 ≤ sq) (h1 : sq ≤ 268435456) : amtE s sq = 0 := by
 unfold amtE; rw [if_neg (by omega), if_neg (by omega)]
theorem amtV_zero {s : Sch} {sq : Int} (h : amtE s sq ≠ 0) : amtV s sq = 0 := by unfold amtV; rw [if_pos h]
theorem amtV_ok {s : Sch} {sq : Int} (h : amtE s sq = 0) : amtV s sq = amt s.br sq s.br.length / 100 := by unfold amtV; rw [if_neg (by omega)]
theorem amount17_any {Q : Nat → Prop} (d : Nat) (r : RSx) (s : Sch) (sq : Int) (w : World) (h : SV Q w d r s) (hz : r.nm.size ≤ 9223372036854775807) :
  Calls Tryz.prog 155 #[.agg #[I O r.num, .string r.nm, I O r.t.op, I O r.t.num, I O r.t.more, .slice r.t.p r.t.n r.t.c, .slice r.bp r.bn r.bc, I O r.least, I O r.ex, .bool r.needs], I O sq] w (ChkG (amtV s sq, amtE s sq) w) := by
 have CV := mh (valid_any d r s _ (h.below (balloc mle (brf _ _) (.cells (sCells r).toArray 101))) hz); have HR := mh h.br; have HN := h.bn; clear h hz; obtain ⟨num, nm, ⟨o, tn, tm, tp, tl, tc⟩, bp, bn, bc, least, ex, needs⟩ := r; simp only [sCells] at CV; simp only at HR HN; have HA := mh (balloc mle (brf w.heap.size w) (.cells #[I O num, .string nm, I O o, I O tn, I O tm, .slice tp tl tc, .slice bp bn bc, I O least, I O ex, .bool needs] 101)); subst HN; obtain ⟨v, ev⟩ : ∃ v, one17 s = v := ⟨_, rfl⟩; rw [ev] at CV; obtain ⟨cv, ecv⟩ : ∃ v, (amtV s sq, amtE s sq) = v := ⟨_, rfl⟩; rw [ecv]; have ECV := mh ecv; have EV := mh ev; clear ecv ev
 by_cases hv0 : v = 0
 rotate_left
 ·have HV := mh (show cv = (0, 17) from by
   have e : amtE s sq = 17 := by unfold amtE; rw [if_pos (by rw [EV.out]; exact hv0)]
   rw [← ECV.out, e, amtV_zero (by rw [e]; decide)])
  have hne : (v != 0) = true := by simpa using hv0
  clear hv0
  go_enter Tryz.func155, Tryz.ntmps155
  go_wp2_with (first | (go_at_call 95; (with_reducible refine cmo CV.out ?_); rintro e w1 ⟨rfl, hb1⟩; have HB1 := mh (bstep mle HA.out hb1); have k1 := mcell hb1 6; clear hb1))
  go_ret2
  exact ⟨by rw [HV.out]; rfl, HB1.out⟩
 subst hv0
 by_cases hs : sq < 0 ∨ 268435456 < sq
 ·have HV := mh (show cv = (0, 2) from by
   have e : amtE s sq = 2 := by unfold amtE; rw [if_neg (by rw [EV.out]; decide), if_pos hs]
   rw [← ECV.out, e, amtV_zero (by rw [e]; decide)])
  have HS := mh hs; clear hs
  by_cases h0 : sq < 0
  ·go_enter Tryz.func155, Tryz.ntmps155
   go_wp2_with (first | (go_at_call 95; (with_reducible refine cmo CV.out ?_); rintro e w1 ⟨rfl, hb1⟩; have HB1 := mh (bstep mle HA.out hb1); have k1 := mcell hb1 6; clear hb1))
   go_ret2
   exact ⟨by rw [HV.out]; rfl, HB1.out⟩
  ·have h1 : 268435456 < sq := by have := HS.out; omega
   go_enter Tryz.func155, Tryz.ntmps155
   go_wp2_with (first | (go_at_call 95; (with_reducible refine cmo CV.out ?_); rintro e w1 ⟨rfl, hb1⟩; have HB1 := mh (bstep mle HA.out hb1); have k1 := mcell hb1 6; clear hb1))
   go_ret2
   exact ⟨by rw [HV.out]; rfl, HB1.out⟩
 have hs0 : 0 ≤ sq := by omega
 have hs1 : sq ≤ 268435456 := by omega
 have HV := mh (show cv = (amt s.br sq s.br.length / 100, 0) from by rw [← ECV.out, amtE_zero EV.out hs0 hs1, amtV_ok (amtE_zero EV.out hs0 hs1)]); have HBR := mh (one_br EV.out); have BA := mh (show brAll s.br s.br.length = true from by have := HBR.out; unfold brB at this; rw [Bool.and_eq_true] at this; exact this.1); clear hs; obtain ⟨l, el⟩ : ∃ l, s.br = l := ⟨_, rfl⟩; rw [el] at HR HV BA CV HA ⊢; have hlen := HR.out.len; clear el HBR
 go_enter Tryz.func155, Tryz.ntmps155
 go_wp2_with (first | (go_at_call 95; (with_reducible refine cmo CV.out ?_); rintro e w1 ⟨rfl, hb1⟩; have HB1 := mh (bstep mle HA.out hb1); have k1 := mcell hb1 6; clear hb1))
 go_loopw [6, 7, 22] (fun a b i wr => ∃ k : Nat, k ≤ l.length ∧ i = I O k ∧ a = I O (amt l sq k) ∧ b = I O (upB l k) ∧ Below w.heap.size w wr) (fun _ _ i _ => l.length - (intOf i).toNat)
 case atStart => exact ⟨0, Nat.zero_le _, rfl, rfl, by unfold upB; simp, HB1.out⟩
 case round =>
  obtain ⟨wo, rfl⟩ : ∃ wo : World, wo = wr := ⟨_, rfl⟩; obtain ⟨k, hk, rfl, rfl, rfl, hb⟩ := hrel; have HB := mh hb; have hk0 : (0 : Int) ≤ (k : Int) := inn _; have AL := amt_le (sq := sq) hk (brAll_mono hk BA.out); have UL := upB_le hk (brAll_mono hk BA.out)
  by_cases hlt : k < l.length
  ·have hk1 : (k : Int) < (l.length : Int) := by omega
   obtain ⟨b, off, x, rfl, hbl, x0, x1, hx⟩ := SBk_at (HR.out.below hb) hlt; have BR := br_right hlt (brAll_mono (by omega) BA.out); have AS := amt_succ (sq := sq) hlt; have US := upB_succ hlt; rw [hx.out] at BR AS US; obtain ⟨up, rate⟩ := x; simp only at x0 x1 BR AS US; obtain ⟨b1, b2, b3, b4, b5⟩ := BR; obtain ⟨last, elast⟩ : ∃ x, upB l k = x := ⟨_, rfl⟩; obtain ⟨sum, esum⟩ : ∃ x, amt l sq k = x := ⟨_, rfl⟩; rw [elast] at b1 b5 AL AS UL ⊢; rw [esum] at AL AS ⊢; obtain ⟨l0, l1⟩ := AL; have pl := part_le (a := max 0 (min sq up - last)) (b := up - last) (by omega) (by omega) b3 b4; obtain ⟨X, eX⟩ : ∃ X, max 0 (min sq up - last) * rate = X := ⟨_, rfl⟩; rw [eX] at pl AS; have AS0 := mh AS; clear AS; have US0 := mh US; clear US; have hwX : IntKind.i64.wrap (max 0 (min sq up - last) * rate) = X := by rw [eX, IntKind.wrap_i64]; omega
   have hwd : IntKind.i64.wrap (min sq up - last) = min sq up - last := by rw [IntKind.wrap_i64]; omega
   have pl0 := pl.1; have pl1 : X ≤ 1125899906842624 := by omega
   have l1' : sum ≤ 1125899906842624 := by omega
   have HBJ := mh (balloc mle hb (.cells #[I O up, I O rate] 98)); clear hb hx elast esum eX pl l1 b1 b2 b3 b4 b5 UL
   go_wp2
   go_roundw
   case rel => exact ⟨k + 1, by omega, by go_num, by rw [AS0.out], by rw [US0.out], HBJ.out⟩
   case measure => simp [intOf]; omega
  ·obtain rfl : k = l.length := by omega
   have h0 : 0 ≤ amt l sq l.length := AL.1; have h1 : amt l sq l.length ≤ 1125899906842624 := by omega
   have DN := mh (down100_any (amt l sq l.length) h0 h1 wo); clear hb AL UL h0 h1
   go_wp2_with (first | (go_at_call 194; (with_reducible refine cmo DN.out ?_); rintro e w1 ⟨rfl, rfl⟩))
   go_ret2
   exact ⟨by rw [HV.out]; rfl, HB.out⟩
theorem As.pay_cases (l : As.Lat) (at_ amount : Int) : (As.chkL l = 66 ∧ As.payE l at_ amount = 66 ∧ As.payV l at_ amount = 0) ∨ (As.chkL l = 0 ∧ As.dayB at_ = false ∧ As.payE l at_ amount = 9 ∧ As.payV l at_ amount = 0) ∨
  (As.chkL l = 0 ∧ As.dayB at_ = true ∧ amount < 0 ∧ As.payE l at_ amount = 67 ∧ As.payV l at_ amount = 0) ∨ (As.chkL l = 0 ∧ As.dayB at_ = true ∧ ¬ amount < 0 ∧ 68719476736 < amount ∧ As.payE l at_ amount = 67 ∧ As.payV l at_ amount = 0) ∨
  (As.chkL l = 0 ∧ As.dayB at_ = true ∧ ¬ amount < 0 ∧ ¬ 68719476736 < amount ∧ As.payE l at_ amount = 0 ∧ As.payV l at_ amount = As.left l at_ amount) := by
 unfold As.payV As.payE
 by_cases hc : As.chkL l = 0
 ·rw [if_neg (by omega)]
  cases hd : As.dayB at_
  ·exact .inr (.inl ⟨hc, rfl, rfl, rfl⟩)
  ·rw [if_neg (by decide)]
   by_cases h1 : amount < 0
   ·rw [if_pos (.inl h1)]
    exact .inr (.inr (.inl ⟨hc, rfl, h1, rfl, rfl⟩))
   by_cases h2 : 68719476736 < amount
   ·rw [if_pos (.inr h2)]
    exact .inr (.inr (.inr (.inl ⟨hc, rfl, h1, h2, rfl, rfl⟩)))
   ·rw [if_neg (by omega)]
    exact .inr (.inr (.inr (.inr ⟨hc, rfl, h1, h2, rfl, rfl⟩)))
 ·have h66 : As.chkL l = 66 := by unfold As.chkL at hc ⊢; split at hc <;> simp_all
  rw [if_pos hc]; exact .inl ⟨h66, rfl, rfl⟩
def As.PayG (v : Int × Int) (w : World) (e : Ending) (w' : World) : Prop := e = .returned (.tuple #[I O v.1, I O v.2]) ∧ Below w.heap.size w w'
theorem pay30_any (d l m at_ amount : Int) (w : World) : Calls Tryz.prog 156 #[.agg #[I O d, I O l, I O m], I O at_, I O amount] w (As.PayG (As.payV ⟨d, l, m⟩ at_ amount, As.payE ⟨d, l, m⟩ at_ amount) w) := by
 have HA := mh (balloc mle (brf w.heap.size w) (.cells #[I O d, I O l, I O m] 26)); have CK := mh (fun (W : World) => check30_any d l m W); have D1 := mh (fun (W : World) => day30_any at_ W); have DY := mh (fun (W : World) => days30_any d at_ W)
 rcases As.pay_cases ⟨d, l, m⟩ at_ amount with ⟨h1, hE, hV⟩ | ⟨h1, h2, hE, hV⟩ | ⟨h1, h2, h3, hE, hV⟩ | ⟨h1, h2, h3, h4, hE, hV⟩ | ⟨h1, h2, h3, h4, hE, hV⟩
 ·rw [hE, hV]; rw [h1] at CK
  go_enter Tryz.func156, Tryz.ntmps156
  go_wp2_with (go_at_call 60; (with_reducible refine cmo (CK.out _) ?_); rintro e w1 ⟨rfl, hb1⟩; have HB1 := mh (bstep mle HA.out hb1); have C0 := mcell hb1 0; have C1 := mcell hb1 1; have C2 := mcell hb1 2; have S1 := mh (show w.heap.size < w1.heap.size from nll (by simp) hb1.size); clear hb1)
  go_ret2
  exact ⟨rfl, HB1.out⟩
 ·rw [hE, hV]; rw [h1] at CK; rw [h2] at D1
  go_enter Tryz.func156, Tryz.ntmps156
  go_wp2_with (first | (go_at_call 60; (with_reducible refine cmo (CK.out _) ?_); rintro e w1 ⟨rfl, hb1⟩; have HB1 := mh (bstep mle HA.out hb1); have C0 := mcell hb1 0; have C1 := mcell hb1 1; have C2 := mcell hb1 2; have S1 := mh (show w.heap.size < w1.heap.size from nll (by simp) hb1.size); clear hb1) | (go_at_call 195; (with_reducible refine cmo (D1.out _) ?_); rintro e w2 ⟨rfl, rfl⟩) | fail)
  go_ret2
  exact ⟨rfl, HB1.out⟩
 ·rw [hE, hV]; rw [h1] at CK; rw [h2] at D1
  go_enter Tryz.func156, Tryz.ntmps156
  go_wp2_with (first | (go_at_call 60; (with_reducible refine cmo (CK.out _) ?_); rintro e w1 ⟨rfl, hb1⟩; have HB1 := mh (bstep mle HA.out hb1); have C0 := mcell hb1 0; have C1 := mcell hb1 1; have C2 := mcell hb1 2; have S1 := mh (show w.heap.size < w1.heap.size from nll (by simp) hb1.size); clear hb1) | (go_at_call 195; (with_reducible refine cmo (D1.out _) ?_); rintro e w2 ⟨rfl, rfl⟩) | fail)
  go_ret2
  exact ⟨rfl, HB1.out⟩
 ·rw [hE, hV]; rw [h1] at CK; rw [h2] at D1
  go_enter Tryz.func156, Tryz.ntmps156
  go_wp2_with (first | (go_at_call 60; (with_reducible refine cmo (CK.out _) ?_); rintro e w1 ⟨rfl, hb1⟩; have HB1 := mh (bstep mle HA.out hb1); have C0 := mcell hb1 0; have C1 := mcell hb1 1; have C2 := mcell hb1 2; have S1 := mh (show w.heap.size < w1.heap.size from nll (by simp) hb1.size); clear hb1) | (go_at_call 195; (with_reducible refine cmo (D1.out _) ?_); rintro e w2 ⟨rfl, rfl⟩) | fail)
  go_ret2
  exact ⟨rfl, HB1.out⟩
 have LO := As.latOk h1; have k1 := LO.d0; have k2 := LO.d1; have k3 := LO.d2; have k4 := LO.m0; have k5 := LO.m1; simp only at k1 k2 k3 k4 k5; rw [hE, hV]; rw [h1] at CK; rw [h2] at D1
 by_cases h5 : at_ ≤ d
 ·have EV := mh (show As.left ⟨d, l, m⟩ at_ amount = amount from by unfold As.left; rw [if_pos h5])
  rw [EV.out]
  go_enter Tryz.func156, Tryz.ntmps156
  go_wp2_with (first | (go_at_call 60; (with_reducible refine cmo (CK.out _) ?_); rintro e w1 ⟨rfl, hb1⟩; have HB1 := mh (bstep mle HA.out hb1); have C0 := mcell hb1 0; have C1 := mcell hb1 1; have C2 := mcell hb1 2; have S1 := mh (show w.heap.size < w1.heap.size from nll (by simp) hb1.size); clear hb1) | (go_at_call 195; (with_reducible refine cmo (D1.out _) ?_); rintro e w2 ⟨rfl, rfl⟩) | fail)
  go_ret2
  exact ⟨rfl, HB1.out⟩
 by_cases h6 : l < at_
 ·have EV := mh (show As.left ⟨d, l, m⟩ at_ amount = 0 from by unfold As.left; rw [if_neg h5, if_pos h6])
  rw [EV.out]
  go_enter Tryz.func156, Tryz.ntmps156
  go_wp2_with (first | (go_at_call 60; (with_reducible refine cmo (CK.out _) ?_); rintro e w1 ⟨rfl, hb1⟩; have HB1 := mh (bstep mle HA.out hb1); have C0 := mcell hb1 0; have C1 := mcell hb1 1; have C2 := mcell hb1 2; have S1 := mh (show w.heap.size < w1.heap.size from nll (by simp) hb1.size); clear hb1) | (go_at_call 195; (with_reducible refine cmo (D1.out _) ?_); rintro e w2 ⟨rfl, rfl⟩) | fail)
  go_ret2
  exact ⟨rfl, HB1.out⟩
 obtain ⟨N, eN⟩ : ∃ N, As.days d at_ = N := ⟨_, rfl⟩; have hN := As.days_bd d at_; rw [eN] at hN DY; have hm0 : 0 ≤ m * N := Int.mul_nonneg k4 hN.1; have hm1 : m * N ≤ 1000 * 36864 := Int.mul_le_mul k5 hN.2 hN.1 (by omega); obtain ⟨X, eX⟩ : ∃ X, m * N = X := ⟨_, rfl⟩; have EV := mh (show As.left ⟨d, l, m⟩ at_ amount = amount * max 0 (1000 - X) / 1000 from by unfold As.left; rw [if_neg h5, if_neg h6]; simp only; rw [eN, eX]); rw [eX] at hm0 hm1; have hw1 : IntKind.i64.wrap (m * N) = X := by rw [eX, IntKind.wrap_i64]; omega
 have hw2 : IntKind.i64.wrap (1000 - X) = 1000 - X := by rw [IntKind.wrap_i64]; omega
 obtain ⟨Y, eY⟩ : ∃ Y, max 0 (1000 - X) = Y := ⟨_, rfl⟩; have hY : 0 ≤ Y ∧ Y ≤ 1000 := by omega
 rw [eY] at EV; have hs := As.share_bd (a := amount) (p := Y) (by omega) hY.1 hY.2; have hp : part amount Y 1000 = (amount * Y / 1000, 0) := by
  unfold part; rw [if_pos (by omega), if_neg (by omega)]
 have PA := mh (fun (W : World) => part_any amount Y 1000 W); rw [hp, ← EV.out] at PA; obtain ⟨V, eV⟩ : ∃ V, As.left ⟨d, l, m⟩ at_ amount = V := ⟨_, rfl⟩; rw [eV] at PA ⊢; rw [← eY] at PA; clear EV eV eY hp hs hN hm0 hm1 eX eN LO hE hV
 go_enter Tryz.func156, Tryz.ntmps156
 go_wp2_with (first | (go_at_call 60; (with_reducible refine cmo (CK.out _) ?_); rintro e w1 ⟨rfl, hb1⟩; have HB1 := mh (bstep mle HA.out hb1); have C0 := mcell hb1 0; have C1 := mcell hb1 1; have C2 := mcell hb1 2; have S1 := mh (show w.heap.size < w1.heap.size from nll (by simp) hb1.size); clear hb1) | (go_at_call 195; (with_reducible refine cmo (D1.out _) ?_); rintro e w2 ⟨rfl, rfl⟩) | fail)
 go_region_held3 (fun w' => w'.cell? ⟨w.heap.size, 0, none⟩ = some (I O d) ∧ w'.cell? ⟨w.heap.size, 2, none⟩ = some (I O m)) (first | exact ⟨C0, C2⟩ | exact ⟨D0, D2⟩ | go_keep) (first
  | (go_at_call 197; (with_reducible refine cmo (DY.out _) ?_); rintro e w2 ⟨rfl, rfl⟩)
  | (go_at_call 196; (with_reducible refine cmo (PA.out _) ?_); rintro e w3 ⟨rfl, hb3⟩; have HB3 := mh (bstep mle HB1.out (bdrew' hb3)); have D0 := (hb3.cell (p := ⟨w.heap.size, 0, none⟩) S1.out).trans C0; have D2 := (hb3.cell (p := ⟨w.heap.size, 2, none⟩) S1.out).trans C2; clear hb3))
 go_wp2
 go_ret2
 exact ⟨rfl, HB3.out⟩
end Go.Proofs.YtmlfcpglhipjgaaGreat
