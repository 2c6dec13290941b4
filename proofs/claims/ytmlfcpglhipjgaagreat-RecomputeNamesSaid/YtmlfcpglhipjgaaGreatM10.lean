/-
  PACKED (pack8.py): what is needed of the texts T21, T22, Q15, Q16, Q1, Q2, Q3, Q4, Q5.
-/
import Derived.Test.YtmlfcpglhipjgaaGreatM7
import Derived.Test.YtmlfcpglhipjgaaGreatM9
set_option maxRecDepth 100000
set_option maxHeartbeats 8000000
open Go.Value renaming int → I
open Go.IntKind renaming i64 → O
namespace Go.Proofs.YtmlfcpglhipjgaaGreat
open Go.RowKit Te Sc
theorem brB_bad {l : List Brk} {k : Nat} (hk : k < l.length) (h : brAt l k = false) : brB l = false := by
 unfold brB
 cases e : brAll l l.length with
 | false => rfl
 | true =>
   have := brAll_mono (show k + 1 ≤ l.length by omega) e; rw [brAll_succ, h, Bool.and_false] at this
   cases this
theorem brAt_parts {l : List Brk} {k : Nat} (hk : k < l.length) {up rate prev : Int} (e : l[k] = ⟨up, rate⟩) (hp : upB l k = prev) :
  (up ≤ prev ∨ 268435456 < up ∨ rate < 0 ∨ 1048576 < rate → brAt l k = false) ∧ (prev < up → up ≤ 268435456 → 0 ≤ rate → rate ≤ 1048576 → brAt l k = true) := by
 rw [brAt_some hk, e, hp]
 constructor
 ·intro h
  rw [Bool.eq_false_iff]; intro h2; simp only [Bool.and_eq_true, decide_eq_true_eq] at h2; omega
 ·intro h1 h2 h3 h4
  simp only [Bool.and_eq_true, decide_eq_true_eq]; exact ⟨h1, h2, h3, h4⟩
theorem brackets_any (p : Option Addr) (l : List Brk) (n c : Nat) (w : World) (hn : n = l.length) (h : Recs SBk w p l) : Calls Tryz.prog 133 #[.slice p n c] w (BoolG (brB l) w) := by
 subst hn; have hl := h.len; have H := mh h; clear h
 go_enter Tryz.func133, Tryz.ntmps133
 go_wp2
 go_loopw [7] (fun i wr => ∃ k : Nat, k ≤ l.length ∧ i = I O k ∧ brAll l k = true ∧ Below w.heap.size w wr) (fun i _ => l.length - (intOf i).toNat)
 case atStart => exact ⟨0, Nat.zero_le _, rfl, rfl, brf _ _⟩
 case round =>
  obtain ⟨wo, rfl⟩ : ∃ wo : World, wo = wr := ⟨_, rfl⟩; obtain ⟨k, hk, rfl, ha, hb⟩ := hrel; have HA := mh ha; have HB := mh hb; have hk0 : (0 : Int) ≤ (k : Int) := inn _
  by_cases hlt : k < l.length
  ·have hk1 : (k : Int) < (l.length : Int) := by omega
   obtain ⟨b, off, x, rfl, hbl, x0, x1, hx⟩ := SBk_at (H.out.below hb) hlt; have HH := mh (H.out.below hb); obtain ⟨up, rate⟩ := x; simp only at x0 x1; obtain ⟨prev, ep⟩ : ∃ pv, upB l k = pv := ⟨_, rfl⟩; have hpv : 0 ≤ prev := by rw [← ep]; exact upB_nonneg hk ha
   obtain ⟨bad, good⟩ := brAt_parts hlt hx.out ep; have BAD := mh (fun h => brB_bad hlt (bad h)); have GOOD := mh (fun h1 h2 h3 h4 => (show brAll l (k + 1) = true by rw [brAll_succ, HA.out, good h1 h2 h3 h4]; rfl)); have HP := mh ep; have HB1 := mh (balloc mle HB.out (.cells #[I O up, I O rate] 98)); clear ha hb hx ep bad good
   by_cases g1 : up < 1
   ·have HV := mh (BAD.out (.inl (by omega)))
    have d1 : decide (up < 1) = true := dqt g1; clear g1
    go_wp2_with fail
    go_quiet (fail)
    go_wp2
    go_ret
    exact ⟨ret_bool HV.out.symm, HB1.out.trans ((drewN_below _ _).mono HB1.out.size)⟩
   have d1 : decide (up < 1) = false := dqf g1
   by_cases g2 : 268435456 < up
   ·have HV := mh (BAD.out (.inr (.inl g2)))
    have d2 : decide (268435456 < up) = true := dqt g2; clear g1 g2
    go_wp2_with fail
    go_quiet (fail)
    go_wp2
    go_ret
    exact ⟨ret_bool HV.out.symm, HB1.out.trans ((drewN_below _ _).mono HB1.out.size)⟩
   have d2 : decide (268435456 < up) = false := dqf g2
   by_cases g3 : rate < 0
   ·have HV := mh (BAD.out (.inr (.inr (.inl g3))))
    have d3 : decide (rate < 0) = true := dqt g3; clear g1 g2 g3
    go_wp2_with fail
    go_quiet (fail)
    go_wp2
    go_ret
    exact ⟨ret_bool HV.out.symm, HB1.out.trans ((drewN_below _ _).mono HB1.out.size)⟩
   have d3 : decide (rate < 0) = false := dqf g3
   by_cases g4 : 1048576 < rate
   ·have HV := mh (BAD.out (.inr (.inr (.inr g4))))
    have d4 : decide (1048576 < rate) = true := dqt g4; clear g1 g2 g3 g4
    go_wp2_with fail
    go_quiet (fail)
    go_wp2
    go_ret
    exact ⟨ret_bool HV.out.symm, HB1.out.trans ((drewN_below _ _).mono HB1.out.size)⟩
   have d4 : decide (1048576 < rate) = false := dqf g4
   rcases Nat.eq_zero_or_pos k with hk00 | hkp
   ·have hk2 : decide (0 < k) = false := by rw [decide_eq_false_iff_not]; omega
    have hp0 : prev = 0 := by rw [← HP.out, hk00]; rfl
    have HN := mh (GOOD.out (by omega) (by omega) (by omega) (by omega)); clear hk00 hp0 g1 g2 g3 g4
    go_wp2_with fail
    go_quiet (fail)
    go_wp2
    go_roundw
    case rel => exact ⟨k + 1, by omega, by go_num, HN.out, HB1.out.trans ((drewN_below _ _).mono HB1.out.size)⟩
    case measure => simp [intOf]; omega
   ·obtain ⟨m, rfl⟩ : ∃ m, k = m + 1 := ⟨k - 1, by omega⟩
    obtain ⟨b', off', y, ey, -, y0, -, hy⟩ := SBk_at HH.out (show m < l.length by omega)
    cases ey
    have hyp : y.up = prev := by rw [← HP.out, upB_succ (show m < l.length by omega), hy.out]
    obtain ⟨yu, yr⟩ := y; simp only at y0 hyp; subst hyp; clear hy
    by_cases g5 : up ≤ yu
    ·have HV := mh (BAD.out (.inl g5))
     have d5 : decide (up ≤ yu) = true := dqt g5; clear g1 g2 g3 g4 g5
     go_wp2_with fail
     go_quiet (fail)
     go_wp2
     go_ret
     exact ⟨ret_bool HV.out.symm, HB1.out.trans ((drewN_below _ _).mono HB1.out.size)⟩
    ·have HN := mh (GOOD.out (by omega) (by omega) (by omega) (by omega))
     have d5 : decide (up ≤ yu) = false := dqf g5; clear g1 g2 g3 g4 g5
     go_wp2_with fail
     go_quiet (fail)
     go_wp2
     go_roundw
     case rel => exact ⟨m + 1 + 1, by omega, by go_num, HN.out, HB1.out.trans ((drewN_below _ _).mono HB1.out.size)⟩
     case measure => simp [intOf]; omega
  ·obtain rfl : k = l.length := by omega
   clear hb
   by_cases g1 : (l.length : Int) < 1
   ·have HV := mh (show brB l = false by
     unfold brB; rw [dqf (show ¬ 1 ≤ l.length by omega)]; simp)
    clear ha
    go_wp2
    go_ret
    exact ⟨ret_bool HV.out.symm, HB.out⟩
   by_cases g2 : (6 : Int) < (l.length : Int)
   ·have HV := mh (show brB l = false by
     unfold brB; rw [dqf (show ¬ l.length ≤ 6 by omega)]; simp)
    clear ha
    go_wp2
    go_ret
    exact ⟨ret_bool (by rw [HV.out]; first | rfl | exact dqf (by omega)), HB.out⟩
   ·have HV := mh (show brB l = true by
     unfold brB; rw [ha, dqt (show 1 ≤ l.length by omega), dqt (show l.length ≤ 6 by omega)]; rfl)
    clear ha
    go_wp2
    go_ret
    exact ⟨ret_bool (by rw [HV.out]), HB.out⟩
theorem refbrackets_any (p : Option Addr) (l : List Brk) (n c : Nat) (w : World) (hn : n = l.length) (h : Recs SBk w p l) : Calls Tryz.prog 138 #[.slice p n c] w (BoolG (brB l) w) := by
 subst hn; have hl := h.len
 by_cases g1 : (l.length : Int) < 1
 ·have HV := mh (show brB l = false by
   unfold brB; rw [dqf (show ¬ 1 ≤ l.length by omega)]; simp)
  clear h
  go_enter Tryz.func138, Tryz.ntmps138
  go_wp2
  go_ret
  exact ⟨ret_bool HV.out.symm, brf _ _⟩
 by_cases g2 : (6 : Int) < (l.length : Int)
 ·have HV := mh (show brB l = false by
   unfold brB; rw [dqf (show ¬ l.length ≤ 6 by omega)]; simp)
  clear h
  go_enter Tryz.func138, Tryz.ntmps138
  go_wp2
  go_ret
  exact ⟨ret_bool HV.out.symm, brf _ _⟩
 have H := mh h
 have EV := mh (show brAll l l.length = true → brB l = true from fun ha => by
  unfold brB; rw [ha, dqt (show 1 ≤ l.length by omega), dqt (show l.length ≤ 6 by omega)]; rfl)
 clear h
 go_enter Tryz.func138, Tryz.ntmps138
 go_wp2
 go_loopw [3, 16] (fun u i wr => ∃ k : Nat, k ≤ l.length ∧ i = I O k ∧ u = I O (upB l k) ∧ brAll l k = true ∧ Below w.heap.size w wr) (fun _ i _ => l.length - (intOf i).toNat)
 case atStart => exact ⟨0, Nat.zero_le _, rfl, rfl, rfl, brf _ _⟩
 case round =>
  obtain ⟨wo, rfl⟩ : ∃ wo : World, wo = wr := ⟨_, rfl⟩; obtain ⟨k, hk, rfl, rfl, ha, hb⟩ := hrel; have HA := mh ha; have HB := mh hb; have hk0 : (0 : Int) ≤ (k : Int) := inn _
  by_cases hlt : k < l.length
  ·have hk1 : (k : Int) < (l.length : Int) := by omega
   obtain ⟨b, off, x, rfl, hbl, x0, x1, hx⟩ := SBk_at (H.out.below hb) hlt; obtain ⟨up, rate⟩ := x; simp only at x0 x1; obtain ⟨prev, ep⟩ : ∃ pv, upB l k = pv := ⟨_, rfl⟩; rw [ep]; obtain ⟨bad, good⟩ := brAt_parts hlt hx.out ep; have BAD := mh (fun h => brB_bad hlt (bad h)); have GOOD := mh (fun h1 h2 h3 h4 => (show brAll l (k + 1) = true by rw [brAll_succ, HA.out, good h1 h2 h3 h4]; rfl)); have HN1 := mh (show upB l (k + 1) = up by rw [upB_succ hlt, hx.out]); have HB1 := mh (balloc mle HB.out (.cells #[I O up, I O rate] 98)); clear ha hb hx ep bad good
   by_cases g1 : up ≤ prev
   ·have HV := mh (BAD.out (.inl g1))
    go_wp2
    go_ret
    exact ⟨ret_bool HV.out.symm, HB1.out⟩
   by_cases g2 : 268435456 < up
   ·have HV := mh (BAD.out (.inr (.inl g2)))
    go_wp2
    go_ret
    exact ⟨ret_bool HV.out.symm, HB1.out⟩
   by_cases g3 : rate < 0
   ·have HV := mh (BAD.out (.inr (.inr (.inl g3))))
    go_wp2
    go_ret
    exact ⟨ret_bool HV.out.symm, HB1.out⟩
   by_cases g4 : 1048576 < rate
   ·have HV := mh (BAD.out (.inr (.inr (.inr g4))))
    go_wp2
    go_ret
    exact ⟨ret_bool HV.out.symm, HB1.out⟩
   ·have HN := mh (GOOD.out (by omega) (by omega) (by omega) (by omega))
    go_wp2
    go_roundw
    case rel => exact ⟨k + 1, by omega, by go_num, by rw [HN1.out], HN.out, HB1.out⟩
    case measure => simp [intOf]; omega
  ·obtain rfl : k = l.length := by omega
   have HV := mh (EV.out ha); clear hb ha
   go_wp2
   go_ret
   exact ⟨ret_bool HV.out.symm, HB.out⟩
theorem and_bit (v : Int) : bits BinOp.and IntKind.i64 v 1 = v % 2 := by
 have h1 : bits BinOp.and IntKind.i64 v 1 = IntKind.i64.wrap (((BitVec.ofInt 64 v &&& BitVec.ofInt 64 1 : BitVec 64).toNat : Nat) : Int) := rfl; rw [h1, BitVec.toNat_and, BitVec.toNat_ofInt, BitVec.toNat_ofInt, show ((1 : Int) % ((2 ^ 64 : Nat) : Int)).toNat = 1 from by decide, Nat.and_one_is_mod, IntKind.wrap_i64, show (((2 ^ 64 : Nat) : Int)) = 18446744073709551616 from by decide]; omega
theorem bit_one (x n : Int) : (bits BinOp.and IntKind.i64 (x / 2 ^ n.toNat) 1 == 1) = bitB x n := by
 rw [and_bit]; unfold bitB; rw [Bool.eq_iff_iff, beq_iff_eq, decide_eq_true_eq]
theorem bit_zero (x n : Int) : (bits BinOp.and IntKind.i64 (x / 2 ^ n.toNat) 1 == 0) = !bitB x n := by
 rw [and_bit]; unfold bitB; rw [Bool.eq_iff_iff, beq_iff_eq, Bool.not_eq_true', decide_eq_false_iff_not]; omega
def oneV (num least ex : Int) (nb : Bool) (ck : Int) (bb bit : Bool) : Int :=
 if num < 0 ∨ 15 < num ∨ least < 0 ∨ 268435456 < least then 2 else if nb = false then 5 else if ck ≠ 0 then ck else if bb = false ∨ ex < 0 ∨ 65536 ≤ ex ∨ bit = true then 3 else 0
theorem one_cases {num least ex : Int} {nb : Bool} {ck : Int} {bb bit : Bool} {v : Int} (h : oneV num least ex nb ck bb bit = v) :
  (num < 0 ∨ 15 < num ∨ least < 0 ∨ 268435456 < least → v = 2) ∧ (¬ (num < 0 ∨ 15 < num ∨ least < 0 ∨ 268435456 < least) → nb = false → v = 5) ∧
  (¬ (num < 0 ∨ 15 < num ∨ least < 0 ∨ 268435456 < least) → nb = true → ck ≠ 0 → v = ck) ∧
  (¬ (num < 0 ∨ 15 < num ∨ least < 0 ∨ 268435456 < least) → nb = true → ck = 0 → (bb = false ∨ ex < 0 ∨ 65536 ≤ ex ∨ bit = true) → v = 3) ∧
  (¬ (num < 0 ∨ 15 < num ∨ least < 0 ∨ 268435456 < least) → nb = true → ck = 0 → ¬ (bb = false ∨ ex < 0 ∨ 65536 ≤ ex ∨ bit = true) → v = 0) := by
 subst h; unfold oneV; refine ⟨fun h => by rw [if_pos h], fun h h2 => by rw [if_neg h, if_pos h2], fun h h2 h3 => by rw [if_neg h, if_neg (by rw [h2]; decide), if_pos h3], fun h h2 h3 h4 => ?_, fun h h2 h3 h4 => ?_⟩
 ·rw [if_neg h, if_neg (by rw [h2]; decide), if_neg (by omega), if_pos h4]
 ·rw [if_neg h, if_neg (by rw [h2]; decide), if_neg (by omega), if_neg h4]
theorem valid_any {Q : Nat → Prop} (d : Nat) (r : RSx) (s : Sch) (w : World) (h : SV Q w d r s) (hz : r.nm.size ≤ 9223372036854775807) :
  Calls Tryz.prog 95 #[.agg #[I O r.num, .string r.nm, I O r.t.op, I O r.t.num, I O r.t.more, .slice r.t.p r.t.n r.t.c, .slice r.bp r.bn r.bc, I O r.least, I O r.ex, .bool r.needs]] w (IntG (one17 s) w) := by
 have hA : Below w.heap.size w (w.alloc (.cells #[I O r.num, .string r.nm, I O r.t.op, I O r.t.num, I O r.t.more, .slice r.t.p r.t.n r.t.c, .slice r.bp r.bn r.bc, I O r.least, I O r.ex, .bool r.needs] 101)) := (brf _ _).alloc mle _; have NM := mh (show ∀ W, Calls Tryz.prog 131 #[.string r.nm] W (fun e w' => e = .returned (.bool (Wo.nameB s.nm.data.toList)) ∧ W = w') from fun W => h.nm ▸ name_any r.nm W hz); have CK := mh (check16_any d r.t s.cond _ (h.below hA).t); have BK := mh (fun (W : World) (hW : Below w.heap.size w W) => show Calls Tryz.prog 133 #[.slice r.bp r.bn r.bc] W (BoolG (brB s.br) W) from brackets_any r.bp s.br r.bn r.bc W h.bn (h.below hW).br); obtain ⟨v, ev⟩ : ∃ v, one17 s = v := ⟨_, rfl⟩; have OC := one_cases (show oneV r.num r.least r.ex (Wo.nameB s.nm.data.toList) (chkT s.cond) (brB s.br) (bitB r.ex r.num) = v from by rw [← ev, h.num, h.least, h.ex]; rfl); rw [ev]; obtain ⟨nb, enb⟩ : ∃ x, Wo.nameB s.nm.data.toList = x := ⟨_, rfl⟩; obtain ⟨ck, eck⟩ : ∃ x, chkT s.cond = x := ⟨_, rfl⟩; obtain ⟨bb, ebb⟩ : ∃ x, brB s.br = x := ⟨_, rfl⟩; rw [enb] at NM OC; rw [eck] at CK OC; rw [ebb] at BK OC; clear enb eck ebb h ev hz; obtain ⟨num, nm, ⟨o, tn, tm, tp, tl, tc⟩, bp, bn, bc, least, ex, needs⟩ := r; have HA := mh hA; clear hA; have HA0 := mh (show w.heap.size < (w.alloc (.cells #[I O num, .string nm, I O o, I O tn, I O tm, .slice tp tl tc, .slice bp bn bc, I O least, I O ex, .bool needs] 101)).heap.size by simp); obtain ⟨bit, ebit⟩ : ∃ x, bitB ex num = x := ⟨_, rfl⟩; have EB : (bits BinOp.and IntKind.i64 (ex / 2 ^ num.toNat) 1 == 1) = bit := by rw [bit_one, ebit]
 simp only [ebit] at OC; clear ebit; obtain ⟨O1, O2, O3, O4, O5⟩ := OC
 replace O1 := mh O1
 replace O2 := mh O2
 replace O3 := mh O3
 replace O4 := mh O4
 replace O5 := mh O5
 by_cases g : num < 0 ∨ 15 < num ∨ least < 0 ∨ 268435456 < least
 ·have HV := mh (O1.out g)
  have G := mh g; clear g
  by_cases g1 : num < 0
  ·go_enter Tryz.func95, Tryz.ntmps95
   go_wp2_with (fail)
   go_ret
   exact ⟨ret_int HV.out.symm, HA.out⟩
  by_cases g2 : 15 < num
  ·go_enter Tryz.func95, Tryz.ntmps95
   go_wp2_with (fail)
   go_ret
   exact ⟨ret_int HV.out.symm, HA.out⟩
  by_cases g3 : least < 0
  ·go_enter Tryz.func95, Tryz.ntmps95
   go_wp2_with (fail)
   go_ret
   exact ⟨ret_int HV.out.symm, HA.out⟩
  have g4 : 268435456 < least := by have := G.out; omega
  ·go_enter Tryz.func95, Tryz.ntmps95
   go_wp2_with (fail)
   go_ret
   exact ⟨ret_int HV.out.symm, HA.out⟩
 ·have hn0 : 0 ≤ num := by omega
  have hn1 : num ≤ 15 := by omega
  have hl0 : 0 ≤ least := by omega
  have hl1 : least ≤ 268435456 := by omega
  have G := mh g; clear g
  cases nb
  ·have HV := mh (O2.out G.out rfl)
   go_enter Tryz.func95, Tryz.ntmps95
   go_wp2_with (first | (go_at_call 131; (with_reducible refine cmo (NM.out _) ?_); rintro e w1 ⟨rfl, rfl⟩) | (go_at_call 132; (with_reducible refine cmo CK.out ?_); rintro e w2 ⟨rfl, hb2⟩; have HS2 := mh (show w.heap.size < w2.heap.size from nll HA0.out hb2.size); have BK1 := mh (BK.out _ (bstep mle HA.out hb2)); have HB2 := mh (bstep mle HA.out hb2); have hk0 := mcell hb2 0; have hk1 := mcell hb2 1; have hk2 := mcell hb2 2; have hk3 := mcell hb2 3; have hk4 := mcell hb2 4; have hk5 := mcell hb2 5; have hk6 := mcell hb2 6; have hk7 := mcell hb2 7; have hk8 := mcell hb2 8; have hk9 := mcell hb2 9; clear hb2) | (go_at_call 133; (with_reducible refine cmo BK1.out ?_); rintro e w3 ⟨rfl, hb3⟩; have hj0 := (hb3.cell (p := ⟨w.heap.size, 0, none⟩) (by have := HS2.out; omega)).trans hk0; have hj8 := (hb3.cell (p := ⟨w.heap.size, 8, none⟩) (by have := HS2.out; omega)).trans hk8; have HB3 := mh (bstep mle HB2.out hb3); clear hb3))
   go_ret
   exact ⟨ret_int HV.out.symm, HA.out⟩
  by_cases c0 : ck = 0
  ·have CZ : (ck == 0) = true := by rw [c0]; rfl
   subst c0
   cases bb
   ·have HV := mh (O4.out G.out rfl rfl (.inl rfl))
    go_enter Tryz.func95, Tryz.ntmps95
    go_wp2_with (first | (go_at_call 131; (with_reducible refine cmo (NM.out _) ?_); rintro e w1 ⟨rfl, rfl⟩) | (go_at_call 132; (with_reducible refine cmo CK.out ?_); rintro e w2 ⟨rfl, hb2⟩; have HS2 := mh (show w.heap.size < w2.heap.size from nll HA0.out hb2.size); have BK1 := mh (BK.out _ (bstep mle HA.out hb2)); have HB2 := mh (bstep mle HA.out hb2); have hk0 := mcell hb2 0; have hk1 := mcell hb2 1; have hk2 := mcell hb2 2; have hk3 := mcell hb2 3; have hk4 := mcell hb2 4; have hk5 := mcell hb2 5; have hk6 := mcell hb2 6; have hk7 := mcell hb2 7; have hk8 := mcell hb2 8; have hk9 := mcell hb2 9; clear hb2) | (go_at_call 133; (with_reducible refine cmo BK1.out ?_); rintro e w3 ⟨rfl, hb3⟩; have hj0 := (hb3.cell (p := ⟨w.heap.size, 0, none⟩) (by have := HS2.out; omega)).trans hk0; have hj8 := (hb3.cell (p := ⟨w.heap.size, 8, none⟩) (by have := HS2.out; omega)).trans hk8; have HB3 := mh (bstep mle HB2.out hb3); clear hb3))
    go_ret
    exact ⟨ret_int HV.out.symm, HB3.out⟩
   by_cases e1 : ex < 0
   ·have HV := mh (O4.out G.out rfl rfl (.inr (.inl e1)))
    go_enter Tryz.func95, Tryz.ntmps95
    go_wp2_with (first | (go_at_call 131; (with_reducible refine cmo (NM.out _) ?_); rintro e w1 ⟨rfl, rfl⟩) | (go_at_call 132; (with_reducible refine cmo CK.out ?_); rintro e w2 ⟨rfl, hb2⟩; have HS2 := mh (show w.heap.size < w2.heap.size from nll HA0.out hb2.size); have BK1 := mh (BK.out _ (bstep mle HA.out hb2)); have HB2 := mh (bstep mle HA.out hb2); have hk0 := mcell hb2 0; have hk1 := mcell hb2 1; have hk2 := mcell hb2 2; have hk3 := mcell hb2 3; have hk4 := mcell hb2 4; have hk5 := mcell hb2 5; have hk6 := mcell hb2 6; have hk7 := mcell hb2 7; have hk8 := mcell hb2 8; have hk9 := mcell hb2 9; clear hb2) | (go_at_call 133; (with_reducible refine cmo BK1.out ?_); rintro e w3 ⟨rfl, hb3⟩; have hj0 := (hb3.cell (p := ⟨w.heap.size, 0, none⟩) (by have := HS2.out; omega)).trans hk0; have hj8 := (hb3.cell (p := ⟨w.heap.size, 8, none⟩) (by have := HS2.out; omega)).trans hk8; have HB3 := mh (bstep mle HB2.out hb3); clear hb3))
    go_ret
    exact ⟨ret_int HV.out.symm, HB3.out⟩
   by_cases e2 : 65536 ≤ ex
   ·have HV := mh (O4.out G.out rfl rfl (.inr (.inr (.inl e2))))
    go_enter Tryz.func95, Tryz.ntmps95
    go_wp2_with (first | (go_at_call 131; (with_reducible refine cmo (NM.out _) ?_); rintro e w1 ⟨rfl, rfl⟩) | (go_at_call 132; (with_reducible refine cmo CK.out ?_); rintro e w2 ⟨rfl, hb2⟩; have HS2 := mh (show w.heap.size < w2.heap.size from nll HA0.out hb2.size); have BK1 := mh (BK.out _ (bstep mle HA.out hb2)); have HB2 := mh (bstep mle HA.out hb2); have hk0 := mcell hb2 0; have hk1 := mcell hb2 1; have hk2 := mcell hb2 2; have hk3 := mcell hb2 3; have hk4 := mcell hb2 4; have hk5 := mcell hb2 5; have hk6 := mcell hb2 6; have hk7 := mcell hb2 7; have hk8 := mcell hb2 8; have hk9 := mcell hb2 9; clear hb2) | (go_at_call 133; (with_reducible refine cmo BK1.out ?_); rintro e w3 ⟨rfl, hb3⟩; have hj0 := (hb3.cell (p := ⟨w.heap.size, 0, none⟩) (by have := HS2.out; omega)).trans hk0; have hj8 := (hb3.cell (p := ⟨w.heap.size, 8, none⟩) (by have := HS2.out; omega)).trans hk8; have HB3 := mh (bstep mle HB2.out hb3); clear hb3))
    go_ret
    exact ⟨ret_int HV.out.symm, HB3.out⟩
   cases bit
   ·have HV := mh (O5.out G.out rfl rfl (by simp; omega))
    go_enter Tryz.func95, Tryz.ntmps95
    go_wp2_with (first | (go_at_call 131; (with_reducible refine cmo (NM.out _) ?_); rintro e w1 ⟨rfl, rfl⟩) | (go_at_call 132; (with_reducible refine cmo CK.out ?_); rintro e w2 ⟨rfl, hb2⟩; have HS2 := mh (show w.heap.size < w2.heap.size from nll HA0.out hb2.size); have BK1 := mh (BK.out _ (bstep mle HA.out hb2)); have HB2 := mh (bstep mle HA.out hb2); have hk0 := mcell hb2 0; have hk1 := mcell hb2 1; have hk2 := mcell hb2 2; have hk3 := mcell hb2 3; have hk4 := mcell hb2 4; have hk5 := mcell hb2 5; have hk6 := mcell hb2 6; have hk7 := mcell hb2 7; have hk8 := mcell hb2 8; have hk9 := mcell hb2 9; clear hb2) | (go_at_call 133; (with_reducible refine cmo BK1.out ?_); rintro e w3 ⟨rfl, hb3⟩; have hj0 := (hb3.cell (p := ⟨w.heap.size, 0, none⟩) (by have := HS2.out; omega)).trans hk0; have hj8 := (hb3.cell (p := ⟨w.heap.size, 8, none⟩) (by have := HS2.out; omega)).trans hk8; have HB3 := mh (bstep mle HB2.out hb3); clear hb3))
    go_ret
    exact ⟨ret_int HV.out.symm, HB3.out⟩
   ·have HV := mh (O4.out G.out rfl rfl (.inr (.inr (.inr rfl))))
    go_enter Tryz.func95, Tryz.ntmps95
    go_wp2_with (first | (go_at_call 131; (with_reducible refine cmo (NM.out _) ?_); rintro e w1 ⟨rfl, rfl⟩) | (go_at_call 132; (with_reducible refine cmo CK.out ?_); rintro e w2 ⟨rfl, hb2⟩; have HS2 := mh (show w.heap.size < w2.heap.size from nll HA0.out hb2.size); have BK1 := mh (BK.out _ (bstep mle HA.out hb2)); have HB2 := mh (bstep mle HA.out hb2); have hk0 := mcell hb2 0; have hk1 := mcell hb2 1; have hk2 := mcell hb2 2; have hk3 := mcell hb2 3; have hk4 := mcell hb2 4; have hk5 := mcell hb2 5; have hk6 := mcell hb2 6; have hk7 := mcell hb2 7; have hk8 := mcell hb2 8; have hk9 := mcell hb2 9; clear hb2) | (go_at_call 133; (with_reducible refine cmo BK1.out ?_); rintro e w3 ⟨rfl, hb3⟩; have hj0 := (hb3.cell (p := ⟨w.heap.size, 0, none⟩) (by have := HS2.out; omega)).trans hk0; have hj8 := (hb3.cell (p := ⟨w.heap.size, 8, none⟩) (by have := HS2.out; omega)).trans hk8; have HB3 := mh (bstep mle HB2.out hb3); clear hb3))
    go_ret
    exact ⟨ret_int HV.out.symm, HB3.out⟩
  ·have HV := mh (O3.out G.out rfl c0)
   go_enter Tryz.func95, Tryz.ntmps95
   go_wp2_with (first | (go_at_call 131; (with_reducible refine cmo (NM.out _) ?_); rintro e w1 ⟨rfl, rfl⟩) | (go_at_call 132; (with_reducible refine cmo CK.out ?_); rintro e w2 ⟨rfl, hb2⟩; have HS2 := mh (show w.heap.size < w2.heap.size from nll HA0.out hb2.size); have BK1 := mh (BK.out _ (bstep mle HA.out hb2)); have HB2 := mh (bstep mle HA.out hb2); have hk0 := mcell hb2 0; have hk1 := mcell hb2 1; have hk2 := mcell hb2 2; have hk3 := mcell hb2 3; have hk4 := mcell hb2 4; have hk5 := mcell hb2 5; have hk6 := mcell hb2 6; have hk7 := mcell hb2 7; have hk8 := mcell hb2 8; have hk9 := mcell hb2 9; clear hb2) | (go_at_call 133; (with_reducible refine cmo BK1.out ?_); rintro e w3 ⟨rfl, hb3⟩; have hj0 := (hb3.cell (p := ⟨w.heap.size, 0, none⟩) (by have := HS2.out; omega)).trans hk0; have hj8 := (hb3.cell (p := ⟨w.heap.size, 8, none⟩) (by have := HS2.out; omega)).trans hk8; have HB3 := mh (bstep mle HB2.out hb3); clear hb3))
   go_ret
   exact ⟨ret_int HV.out.symm, HB2.out⟩
theorem money34_any (n : Int) (w : World) : Calls Tryz.prog 62 #[I O n] w fun e w' => e = .returned (.bool (En.money n)) ∧ w = w' := by
 by_cases h : 0 ≤ n ∧ n ≤ 68719476736
 ·rw [En.money_iff.2 h]
  obtain ⟨h1, h2⟩ := h
  go_enter Tryz.func62, Tryz.ntmps62
  go_wp2
  go_ret
  exact ⟨rfl, rfl⟩
 ·rw [show En.money n = false from by rw [← Bool.not_eq_true, En.money_iff]; exact h]
  by_cases h1 : 0 ≤ n
  ·have h2 : ¬ n ≤ 68719476736 := by omega
   clear h
   go_enter Tryz.func62, Tryz.ntmps62
   go_wp2
   go_ret
   exact ⟨rfl, rfl⟩
  ·clear h
   go_enter Tryz.func62, Tryz.ntmps62
   go_wp2
   go_ret
   exact ⟨rfl, rfl⟩
theorem As.bit_one (x n : Int) : (bits BinOp.and IntKind.i64 (x / 2 ^ n.toNat) 1 == 1) = bitB x n := by
 rw [and_bit]; unfold bitB
 by_cases h : x / 2 ^ n.toNat % 2 = 1
 ·simp [h]
 ·simp [h]
theorem names34_any (r : RL) (s : RSx) (w : World) (h0 : 0 ≤ s.num) (h15 : s.num ≤ 15) :
  Calls Tryz.prog 139 #[.agg (lCells r).toArray, .agg (sCells s).toArray] w fun e w' => e = .returned (.bool (bitB r.sch s.num)) ∧ Below w.heap.size w w' := by
 obtain ⟨d, sch, dp, dn, dc, season, k, a, b⟩ := r; obtain ⟨num, nm, ⟨o, tn, tm, tp, tl, tc⟩, bp, bn, bc, least, ex, needs⟩ := s; simp only [lCells, sCells] at h0 h15 ⊢; have HB := mh (balloc mle (balloc mle (brf w.heap.size w) (.cells #[I O d, I O sch, .slice dp dn dc, I O season, I O k, I O a, I O b] 68)) (.cells #[I O num, .string nm, I O o, I O tn, I O tm, .slice tp tl tc, .slice bp bn bc, I O least, I O ex, .bool needs] 101))
 cases e : bitB sch num
 ·have E := As.bit_one sch num
  rw [e] at E; clear e
  go_enter Tryz.func139, Tryz.ntmps139
  go_wp2
  go_ret
  exact ⟨rfl, HB.out⟩
 ·have E := As.bit_one sch num
  rw [e] at E; clear e
  go_enter Tryz.func139, Tryz.ntmps139
  go_wp2
  go_ret
  exact ⟨rfl, HB.out⟩
def fcells (f : As.Fct) : List Value := [I O f.decl, I O f.due, I O f.season, I O f.kind, I O f.area, I O f.border]
def As.FactG (f : As.Fct) (w : World) (e : Ending) (w' : World) : Prop := e = .returned (.agg (fcells f).toArray) ∧ Below w.heap.size w w'
theorem fact34_any {Q : Nat → Prop} (r : RL) (x : As.LineF) (k : Nat) (w : World) (hv : LV Q w r x) (hk : k < x.due.length) :
  Calls Tryz.prog 141 #[.agg (lCells r).toArray, I O k] w (As.FactG (As.factOf x k) w) := by
 have h1 := hv.decl; have h3 := hv.season; have h4 := hv.kind; have h5 := hv.area; have h6 := hv.border; have hdn := hv.dn; obtain ⟨bd, off, ed, hbl, hc⟩ := hv.due.at hk; clear hv; obtain ⟨d, sch, dp, dn, dc, season, kd, a, b⟩ := r; simp only at h1 h3 h4 h5 h6 hdn ed; subst h1 h3 h4 h5 h6 hdn ed; have EF := mh (show As.factOf x k = ⟨x.decl, x.due.getD k 0, x.season, x.kind, x.area, x.border⟩ from rfl); obtain ⟨F, eF⟩ : ∃ F, As.factOf x k = F := ⟨_, rfl⟩; rw [eF] at EF ⊢; obtain ⟨u, eu⟩ : ∃ u, x.due.getD k 0 = u := ⟨_, rfl⟩; rw [eu] at hc EF; obtain ⟨n, en⟩ : ∃ n, x.due.length = n := ⟨_, rfl⟩; rw [en] at hk; rw [en]; obtain ⟨dl, sn, kn, ar, bo, e1, e2, e3, e4, e5⟩ : ∃ dl sn kn ar bo, x.decl = dl ∧ x.season = sn ∧ x.kind = kn ∧ x.area = ar ∧ x.border = bo := ⟨_, _, _, _, _, rfl, rfl, rfl, rfl, rfl⟩; rw [e1, e2, e3, e4, e5] at EF ⊢; clear eF eu en e1 e2 e3 e4 e5; have hk0 : (0 : Int) ≤ (k : Int) := inn _; have hk1 : (k : Int) < (n : Int) := by omega
 simp only [lCells]
 go_enter Tryz.func141, Tryz.ntmps141
 go_wp2
 go_region
 go_wp2
 exact bodyPost_ret (v := .agg #[I O dl, I O u, I O sn, I O kn, I O ar, I O bo]) (by simp [results, Tryz.results141, go_sem]) rfl ⟨by rw [EF.out]; rfl, (balloc mle (balloc mle (brf w.heap.size w) _) _).drew⟩
theorem As.allV_take {L : List Sch} {k : Nat} (hk : k < L.length) : As.allV (L.take (k + 1)) = bits BinOp.or IntKind.i64 (As.allV (L.take k)) (wrap64 (2 ^ L[k].num.toNat)) := by
 unfold As.allV; rw [tsg hk, List.foldl_append]
 rfl
theorem As.measB_iff {a b : Int} : As.measB a b = true ↔ 0 ≤ a ∧ a ≤ 268435456 ∧ 0 ≤ b ∧ b ≤ 16777216 := by
 unfold As.measB; simp only [Bool.and_eq_true, decide_eq_true_eq]
theorem As.measB_not {a b : Int} (h : ¬ (0 ≤ a ∧ a ≤ 268435456 ∧ 0 ≤ b ∧ b ≤ 16777216)) : As.measB a b = false := by
 rw [← Bool.not_eq_true, As.measB_iff]; exact h
theorem valid8_any (a b : Int) (w : World) : Calls Tryz.prog 238 #[.agg #[I O a, I O b]] w fun e w' => e = .returned (.bool (As.measB a b)) ∧ Below w.heap.size w w' := by
 have HA := mh (balloc mle (brf w.heap.size w) (.cells #[I O a, I O b] 64))
 by_cases h1 : 0 ≤ a
 rotate_left
 ·rw [As.measB_not (by omega)]
  go_enter Tryz.func238, Tryz.ntmps238
  go_wp2
  go_ret
  exact ⟨rfl, HA.out⟩
 by_cases h2 : a ≤ 268435456
 rotate_left
 ·rw [As.measB_not (by omega)]
  go_enter Tryz.func238, Tryz.ntmps238
  go_wp2
  go_ret
  exact ⟨rfl, HA.out⟩
 by_cases h3 : 0 ≤ b
 rotate_left
 ·rw [As.measB_not (by omega)]
  go_enter Tryz.func238, Tryz.ntmps238
  go_wp2
  go_ret
  exact ⟨rfl, HA.out⟩
 by_cases h4 : b ≤ 16777216
 rotate_left
 ·rw [As.measB_not (by omega)]
  go_enter Tryz.func238, Tryz.ntmps238
  go_wp2
  go_ret
  exact ⟨rfl, HA.out⟩
 ·rw [As.measB_iff.2 ⟨h1, h2, h3, h4⟩]
  go_enter Tryz.func238, Tryz.ntmps238
  go_wp2
  go_ret
  exact ⟨rfl, HA.out⟩
def As.tolE (c a b width : Int) : Int := if As.measB a b = false then 3 else if width < 0 ∨ 200 < width ∨ c < 0 ∨ 268435456 < c then 2 else 0
theorem check8_any (c a b width : Int) (w : World) : Calls Tryz.prog 232 #[I O c, .agg #[I O a, I O b], I O width] w fun e w' => e = .returned (I O (As.tolE c a b width)) ∧ Below w.heap.size w w' := by
 have HA := mh (balloc mle (brf w.heap.size w) (.cells #[I O a, I O b] 64)); have V := mh (fun (W : World) => valid8_any a b W); unfold As.tolE
 cases hm : As.measB a b
 ·rw [hm] at V
  rw [if_pos rfl]
  go_enter Tryz.func232, Tryz.ntmps232
  go_wp2_with (first | (go_at_call 238; (with_reducible refine cmo (V.out _) ?_); rintro e w1 ⟨rfl, hb1⟩; have HB1 := mh (bstep mle HA.out hb1); clear hb1))
  go_ret
  exact ⟨rfl, HB1.out⟩
 ·rw [hm] at V
  rw [if_neg (by decide)]; have step : ∀ v : Int, (width < 0 ∧ v = 2) ∨ (¬ width < 0 ∧ 200 < width ∧ v = 2) ∨ (¬ width < 0 ∧ ¬ 200 < width ∧ c < 0 ∧ v = 2) ∨ (¬ width < 0 ∧ ¬ 200 < width ∧ ¬ c < 0 ∧ 268435456 < c ∧ v = 2) ∨ (¬ width < 0 ∧ ¬ 200 < width ∧ ¬ c < 0 ∧ ¬ 268435456 < c ∧ v = 0) →
    Calls Tryz.prog 232 #[I O c, .agg #[I O a, I O b], I O width] w fun e w' => e = .returned (I O v) ∧ Below w.heap.size w w' := by
   rintro v (⟨h1, rfl⟩ | ⟨h1, h2, rfl⟩ | ⟨h1, h2, h3, rfl⟩ | ⟨h1, h2, h3, h4, rfl⟩ | ⟨h1, h2, h3, h4, rfl⟩)
   all_goals
    go_enter Tryz.func232, Tryz.ntmps232
    go_wp2_with (first | (go_at_call 238; (with_reducible refine cmo (V.out _) ?_); rintro e w1 ⟨rfl, hb1⟩; have HB1 := mh (bstep mle HA.out hb1); clear hb1))
    go_ret
    exact ⟨rfl, HB1.out⟩
  apply step
  split <;> omega
theorem As.tolE_zero {c a b width : Int} : As.tolE c a b width = 0 ↔ As.measB a b = true ∧ 0 ≤ width ∧ width ≤ 200 ∧ 0 ≤ c ∧ c ≤ 268435456 := by
 unfold As.tolE
 cases As.measB a b
 ·simp
 ·simp only [Bool.true_eq_false, if_false, true_and]
  split
  ·constructor
   ·intro h; cases h
   ·intro h; omega
  ·constructor
   ·intro _; omega
   ·intro _; rfl
theorem margin8_any (a b width : Int) (w : World) (hm : As.measB a b = true) (w0 : 0 ≤ width) (w1 : width ≤ 200) :
  Calls Tryz.prog 233 #[.agg #[I O a, I O b], I O width] w fun e w' => e = .returned (.tuple #[I O (As.margin a b width), I O 0]) ∧ Below w.heap.size w w' := by
 obtain ⟨a0, a1, b0, b1⟩ := As.measB_iff.1 hm; have HA := mh (balloc mle (brf w.heap.size w) (.cells #[I O a, I O b] 64)); have CK := mh (fun (W : World) => check8_any 0 a b width W); rw [As.tolE_zero.2 ⟨hm, w0, w1, by omega, by omega⟩] at CK; have hp := As.prod_bd b0 b1 w0 w1; obtain ⟨X, eX⟩ : ∃ X, b * width = X := ⟨_, rfl⟩; have hw : IntKind.i64.wrap (b * width) = X := by rw [eX, IntKind.wrap_i64]; omega
 have EM := mh (show As.margin a b width = min (Ex.up X 100) a from by rw [← eX]; rfl); have x1 : X ≤ 3355443200 := by omega
 have x0 : 0 ≤ X := by omega
 have UP := mh (fun (W : World) => up_any X 100 W (by omega) (by omega)); obtain ⟨V, eV⟩ : ∃ V, Ex.up X 100 = V := ⟨_, rfl⟩; rw [eV] at UP EM; clear hp eX eV hm
 go_enter Tryz.func233, Tryz.ntmps233
 go_wp2_with (first
  | (go_at_call 232; (with_reducible refine cmo (CK.out _) ?_); rintro e w1 ⟨rfl, hb1⟩; have HB1 := mh (bstep mle HA.out hb1); have C0 := mcell hb1 0; have C1 := mcell hb1 1; clear hb1)
  | fail)
 go_quiet ((go_at_call 198; exact Calls.quiet_of_same (Calls.turn (UP.out _))))
 go_wp2
 go_ret2
 exact ⟨by rw [EM.out]; rfl, bnext HB1.out HB1.out.size (drewN_below _ _)⟩
theorem accept8_any (c a b width : Int) (w : World) (hm : As.measB a b = true) (w0 : 0 ≤ width) (w1 : width ≤ 200) (c0 : 0 ≤ c) (c1 : c ≤ 268435456) :
  Calls Tryz.prog 222 #[I O c, .agg #[I O a, I O b], I O width] w fun e w' => e = .returned (.tuple #[I O (As.accept c a b width), I O 0]) ∧ Below w.heap.size w w' := by
 obtain ⟨a0, a1, b0, b1⟩ := As.measB_iff.1 hm; have HA := mh (balloc mle (brf w.heap.size w) (.cells #[I O a, I O b] 64)); have CK := mh (fun (W : World) => check8_any c a b width W); rw [As.tolE_zero.2 ⟨hm, w0, w1, c0, c1⟩] at CK; have MG := mh (fun (W : World) => margin8_any a b width W hm w0 w1); obtain ⟨M, eM⟩ : ∃ M, As.margin a b width = M := ⟨_, rfl⟩; have EA := mh (show As.accept c a b width = if max (c - a) (a - c) ≤ M then c else a from by unfold As.accept; rw [eM]); rw [eM] at MG; have hw1 : IntKind.i64.wrap (c - a) = c - a := by rw [IntKind.wrap_i64]; omega
 have hw2 : IntKind.i64.wrap (a - c) = a - c := by rw [IntKind.wrap_i64]; omega
 clear eM hm
 by_cases h : max (c - a) (a - c) ≤ M
 ·have EV := mh (show As.accept c a b width = c from by rw [EA.out, if_pos h])
  go_enter Tryz.func222, Tryz.ntmps222
  go_wp2_with (first
   | (go_at_call 232; (with_reducible refine cmo (CK.out _) ?_); rintro e w1 ⟨rfl, hb1⟩; have HB1 := mh (bstep mle HA.out hb1); have C0 := mcell hb1 0; have C1 := mcell hb1 1; have S1 := mh (show w.heap.size < w1.heap.size from nll (by simp) hb1.size); clear hb1)
   | (go_at_call 233; (with_reducible refine cmo (MG.out _) ?_); rintro e w2 ⟨rfl, hb2⟩; have HB2 := mh (bstep mle HB1.out hb2); have D0 := (hb2.cell (p := ⟨w.heap.size, 0, none⟩) S1.out).trans C0; have D1 := (hb2.cell (p := ⟨w.heap.size, 1, none⟩) S1.out).trans C1; clear hb2 C0 C1)
   | fail)
  go_ret2
  exact ⟨by rw [EV.out]; rfl, HB2.out⟩
 ·have EV := mh (show As.accept c a b width = a from by rw [EA.out, if_neg h])
  go_enter Tryz.func222, Tryz.ntmps222
  go_wp2_with (first
   | (go_at_call 232; (with_reducible refine cmo (CK.out _) ?_); rintro e w1 ⟨rfl, hb1⟩; have HB1 := mh (bstep mle HA.out hb1); have C0 := mcell hb1 0; have C1 := mcell hb1 1; have S1 := mh (show w.heap.size < w1.heap.size from nll (by simp) hb1.size); clear hb1)
   | (go_at_call 233; (with_reducible refine cmo (MG.out _) ?_); rintro e w2 ⟨rfl, hb2⟩; have HB2 := mh (bstep mle HB1.out hb2); have D0 := (hb2.cell (p := ⟨w.heap.size, 0, none⟩) S1.out).trans C0; have D1 := (hb2.cell (p := ⟨w.heap.size, 1, none⟩) S1.out).trans C1; clear hb2 C0 C1)
   | fail)
  go_ret2
  exact ⟨by rw [EV.out]; rfl, HB2.out⟩
def As.inB (n lo hi : Int) : Bool := decide (lo ≤ n) && decide (n ≤ hi)
theorem in28_any (n lo hi : Int) (w : World) : Calls Tryz.prog 183 #[I O n, I O lo, I O hi] w fun e w' => e = .returned (.bool (As.inB n lo hi)) ∧ w = w' := by
 by_cases h1 : lo ≤ n
 rotate_left
 ·rw [show As.inB n lo hi = false from by unfold As.inB; simp [h1]]
  go_enter Tryz.func183, Tryz.ntmps183
  go_wp2
  go_ret
  exact ⟨rfl, rfl⟩
 by_cases h2 : n ≤ hi
 rotate_left
 ·rw [show As.inB n lo hi = false from by unfold As.inB; simp [h2]]
  go_enter Tryz.func183, Tryz.ntmps183
  go_wp2
  go_ret
  exact ⟨rfl, rfl⟩
 ·rw [show As.inB n lo hi = true from by unfold As.inB; simp [h1, h2]]
  go_enter Tryz.func183, Tryz.ntmps183
  go_wp2
  go_ret
  exact ⟨rfl, rfl⟩
theorem As.seen_cases (k a b : Int) : (As.inB k 0 4 = false ∧ As.seenB k a b = false) ∨ (As.inB k 0 4 = true ∧ (k != 1) = true ∧ As.seenB k a b = (decide (a = 0) && decide (b = 0))) ∨
  (As.inB k 0 4 = true ∧ (k != 1) = false ∧ As.inB a 0 268435456 = false ∧ As.seenB k a b = false) ∨ (As.inB k 0 4 = true ∧ (k != 1) = false ∧ As.inB a 0 268435456 = true ∧ As.seenB k a b = As.inB b 0 16777216) := by
 unfold As.seenB As.measB; have e : As.inB k 0 4 = (decide (0 ≤ k) && decide (k ≤ 4)) := rfl; have e2 : As.inB a 0 268435456 = (decide (0 ≤ a) && decide (a ≤ 268435456)) := rfl; have e3 : As.inB b 0 16777216 = (decide (0 ≤ b) && decide (b ≤ 16777216)) := rfl; rw [← Bool.and_assoc, ← Bool.and_assoc (decide (0 ≤ a)), ← e, ← e2, ← e3]
 cases As.inB k 0 4
 ·exact .inl ⟨rfl, rfl⟩
 ·by_cases h : k = 1
  ·rw [if_pos h]
   have h' : (k != 1) = false := by simp [h]
   cases As.inB a 0 268435456
   ·exact .inr (.inr (.inl ⟨rfl, h', rfl, rfl⟩))
   ·exact .inr (.inr (.inr ⟨rfl, h', rfl, rfl⟩))
  ·rw [if_neg h]
   exact .inr (.inl ⟨rfl, by simp [h], rfl⟩)
theorem seen28_any (k a b : Int) (w : World) : Calls Tryz.prog 184 #[.agg #[I O k, I O a, I O b]] w fun e w' => e = .returned (.bool (As.seenB k a b)) ∧ Below w.heap.size w w' := by
 have HA := mh (balloc mle (brf w.heap.size w) (.cells #[I O k, I O a, I O b] 66)); have I1 := mh (fun (W : World) => in28_any k 0 4 W); have I2 := mh (fun (W : World) => in28_any a 0 268435456 W); have I3 := mh (fun (W : World) => in28_any b 0 16777216 W)
 rcases As.seen_cases k a b with ⟨h1, h⟩ | ⟨h1, h2, h⟩ | ⟨h1, h2, h3, h⟩ | ⟨h1, h2, h3, h⟩
 ·rw [h]
  rw [h1] at I1
  go_enter Tryz.func184, Tryz.ntmps184
  go_wp2_with (first | (go_at_call 183; (with_reducible refine cmo (I1.out _) ?_); rintro e w1 ⟨rfl, rfl⟩))
  go_ret
  exact ⟨rfl, HA.out⟩
 ·rw [h]
  rw [h1] at I1; clear h
  by_cases hz : a = 0
  rotate_left
  ·rw [show (decide (a = 0) && decide (b = 0)) = false from by simp [hz]]
   go_enter Tryz.func184, Tryz.ntmps184
   go_wp2_with (first | (go_at_call 183; (with_reducible refine cmo (I1.out _) ?_); rintro e w1 ⟨rfl, rfl⟩))
   go_ret
   exact ⟨rfl, HA.out⟩
  subst hz
  by_cases hz : b = 0
  rotate_left
  ·rw [show (decide ((0 : Int) = 0) && decide (b = 0)) = false from by simp [hz]]
   go_enter Tryz.func184, Tryz.ntmps184
   go_wp2_with (first | (go_at_call 183; (with_reducible refine cmo (I1.out _) ?_); rintro e w1 ⟨rfl, rfl⟩))
   go_ret
   exact ⟨rfl, HA.out⟩
  ·subst hz
   go_enter Tryz.func184, Tryz.ntmps184
   go_wp2_with (first | (go_at_call 183; (with_reducible refine cmo (I1.out _) ?_); rintro e w1 ⟨rfl, rfl⟩))
   go_ret
   exact ⟨rfl, HA.out⟩
 ·rw [h]
  rw [h1] at I1; rw [h3] at I2
  go_enter Tryz.func184, Tryz.ntmps184
  go_wp2_with (first | (go_at_call 183; (with_reducible refine cmo (I1.out _) ?_); rintro e w1 ⟨rfl, rfl⟩) | (go_at_call 183; (with_reducible refine cmo (I2.out _) ?_); rintro e w1 ⟨rfl, rfl⟩))
  go_ret
  exact ⟨rfl, HA.out⟩
 ·rw [h]
  rw [h1] at I1; rw [h3] at I2; clear h
  go_enter Tryz.func184, Tryz.ntmps184
  go_wp2_with (first | (go_at_call 183; (with_reducible refine cmo (I1.out _) ?_); rintro e w1 ⟨rfl, rfl⟩) | (go_at_call 183; (with_reducible refine cmo (I2.out _) ?_); rintro e w1 ⟨rfl, rfl⟩) | (go_at_call 183; (with_reducible refine cmo (I3.out _) ?_); rintro e w1 ⟨rfl, rfl⟩))
  go_ret
  exact ⟨rfl, HA.out⟩
theorem As.chk28_cases (f : As.Fct) (width : Int) :
  (As.inB f.decl 0 268435456 = false ∧ As.chk28 f width = 68) ∨ (As.inB f.decl 0 268435456 = true ∧ As.inB f.due 0 f.decl = false ∧ As.chk28 f width = 68) ∨
  (As.inB f.decl 0 268435456 = true ∧ As.inB f.due 0 f.decl = true ∧ As.inB f.season (-1) 1 = false ∧ As.chk28 f width = 68) ∨
  (As.inB f.decl 0 268435456 = true ∧ As.inB f.due 0 f.decl = true ∧ As.inB f.season (-1) 1 = true ∧ As.seenB f.kind f.area f.border = false ∧ As.chk28 f width = 68) ∨
  (As.inB f.decl 0 268435456 = true ∧ As.inB f.due 0 f.decl = true ∧ As.inB f.season (-1) 1 = true ∧ As.seenB f.kind f.area f.border = true ∧ As.inB width 0 200 = false ∧ As.chk28 f width = 2) ∨
  (As.inB f.decl 0 268435456 = true ∧ As.inB f.due 0 f.decl = true ∧ As.inB f.season (-1) 1 = true ∧ As.seenB f.kind f.area f.border = true ∧ As.inB width 0 200 = true ∧ As.chk28 f width = 0) := by
 have e : As.factB f = (As.inB f.decl 0 268435456 && (As.inB f.due 0 f.decl && (As.inB f.season (-1) 1 && As.seenB f.kind f.area f.border))) := by
  unfold As.factB As.inB; simp only [Bool.and_assoc]
 unfold As.chk28; rw [e]
 cases As.inB f.decl 0 268435456
 ·exact .inl ⟨rfl, rfl⟩
 cases As.inB f.due 0 f.decl
 ·exact .inr (.inl ⟨rfl, rfl, rfl⟩)
 cases As.inB f.season (-1) 1
 ·exact .inr (.inr (.inl ⟨rfl, rfl, rfl, rfl⟩))
 cases As.seenB f.kind f.area f.border
 ·exact .inr (.inr (.inr (.inl ⟨rfl, rfl, rfl, rfl, rfl⟩)))
 right; right; right; right
 simp only [Bool.and_self, Bool.true_eq_false, if_false]; have hw : As.inB width 0 200 = true ↔ 0 ≤ width ∧ width ≤ 200 := by unfold As.inB; simp
 cases h : As.inB width 0 200
 ·left
  refine ⟨trivial, trivial, trivial, trivial, rfl, ?_⟩
  rw [if_pos]; have : ¬ (0 ≤ width ∧ width ≤ 200) := fun x => by rw [hw.2 x] at h; cases h
  omega
 ·right
  have := hw.1 h; exact ⟨trivial, trivial, trivial, trivial, rfl, by rw [if_neg (by omega)]⟩
theorem check28_any (d u s k a b width : Int) (w : World) : Calls Tryz.prog 140 #[.agg #[I O d, I O u, I O s, I O k, I O a, I O b], I O width] w fun e w' => e = .returned (I O (As.chk28 ⟨d, u, s, k, a, b⟩ width)) ∧ Below w.heap.size w w' := by
 have HA := mh (balloc mle (brf w.heap.size w) (.cells #[I O d, I O u, I O s, I O k, I O a, I O b] 135)); have I1 := mh (fun (W : World) => in28_any d 0 268435456 W); have I2 := mh (fun (W : World) => in28_any u 0 d W); have I3 := mh (fun (W : World) => in28_any s (-1) 1 W); have I4 := mh (fun (W : World) => in28_any width 0 200 W); have SN := mh (fun (W : World) => seen28_any k a b W)
 rcases As.chk28_cases ⟨d, u, s, k, a, b⟩ width with ⟨h1, h⟩ | ⟨h1, h2, h⟩ | ⟨h1, h2, h3, h⟩ | ⟨h1, h2, h3, h4, h⟩ | ⟨h1, h2, h3, h4, h5, h⟩ | ⟨h1, h2, h3, h4, h5, h⟩ <;> simp only at h1
 all_goals
  rw [h]; rw [h1] at I1
  try (simp only at h2; rw [h2] at I2)
  try (simp only at h3; rw [h3] at I3)
  try (simp only at h4; rw [h4] at SN)
  try (simp only at h5; rw [h5] at I4)
  clear h
  go_enter Tryz.func140, Tryz.ntmps140
  go_wp2_with (first | (go_at_call 183; (with_reducible refine cmo (I1.out _) ?_); rintro e w1 ⟨rfl, rfl⟩) | (go_at_call 183; (with_reducible refine cmo (I2.out _) ?_); rintro e w1 ⟨rfl, rfl⟩) | (go_at_call 183; (with_reducible refine cmo (I3.out _) ?_); rintro e w1 ⟨rfl, rfl⟩) | (go_at_call 183; (with_reducible refine cmo (I4.out _) ?_); rintro e w1 ⟨rfl, rfl⟩) | (go_at_call 184; (with_reducible refine cmo (SN.out _) ?_); rintro e w2 ⟨rfl, hb2⟩; have HB2 := mh (bstep mle HA.out hb2); clear hb2))
  go_ret
  first | exact ⟨rfl, HA.out⟩ | exact ⟨rfl, HB2.out⟩
end Go.Proofs.YtmlfcpglhipjgaaGreat
