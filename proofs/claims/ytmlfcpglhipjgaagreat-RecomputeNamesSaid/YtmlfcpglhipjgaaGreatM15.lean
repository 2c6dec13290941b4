/-
  PACKED (pack8.py): what is needed of the texts Q20.
-/
import Derived.Test.YtmlfcpglhipjgaaGreatM14
set_option maxRecDepth 100000
set_option maxHeartbeats 8000000
open Go.Value renaming int → I
open Go.IntKind renaming i64 → O
namespace Go.Proofs.YtmlfcpglhipjgaaGreat
open Go.RowKit Sc As
theorem As.declSum_take {K : List LineF} {k : Nat} (hk : k < K.length) : declSum (K.take (k + 1)) = declSum (K.take k) + K[k].decl := by
 unfold declSum; rw [tsg hk, List.map_append, List.map_singleton, Sh.sum_snoc]
theorem As.declSum_bd {l : YLaw} {K : List LineF} : ∀ {k : Nat}, k ≤ K.length → (∀ j (h : j < K.length), j < k → lineB l K[j] = true) → 0 ≤ declSum (K.take k) ∧ declSum (K.take k) ≤ 268435456 * k
 | 0, _, _ => by simp [declSum, Sh.sum]
 | k + 1, hk, h => by
   have ih := As.declSum_bd (k := k) (by omega) fun j hj h2 => h j hj (by omega)
   have hl := lineOk.1 (h k (by omega) (by omega)); have := hl.d0; have := hl.d1; rw [declSum_take (by omega)]
   push_cast
   omega
theorem As.farmB_cases (l : YLaw) (f : FarmF) : (f.farm < 1 ∧ farmB l f = false) ∨ (¬ f.farm < 1 ∧ 60 < f.farm ∧ farmB l f = false) ∨ (¬ f.farm < 1 ∧ ¬ 60 < f.farm ∧ f.day < 0 ∧ farmB l f = false) ∨
  (¬ f.farm < 1 ∧ ¬ 60 < f.farm ∧ ¬ f.day < 0 ∧ 36864 < f.day ∧ farmB l f = false) ∨ (¬ f.farm < 1 ∧ ¬ 60 < f.farm ∧ ¬ f.day < 0 ∧ ¬ 36864 < f.day ∧ 20 < f.lines.length ∧ farmB l f = false) ∨
  (¬ f.farm < 1 ∧ ¬ 60 < f.farm ∧ ¬ f.day < 0 ∧ ¬ 36864 < f.day ∧ ¬ 20 < f.lines.length ∧ farmB l f = (f.lines.all (lineB l) && decide (declSum f.lines ≤ 268435456))) := by
 unfold farmB
 by_cases h1 : f.farm < 1
 ·exact .inl ⟨h1, by simp; omega⟩
 by_cases h2 : 60 < f.farm
 ·exact .inr (.inl ⟨h1, h2, by simp; omega⟩)
 by_cases h3 : f.day < 0
 ·exact .inr (.inr (.inl ⟨h1, h2, h3, by simp; omega⟩))
 by_cases h4 : 36864 < f.day
 ·exact .inr (.inr (.inr (.inl ⟨h1, h2, h3, h4, by simp; omega⟩)))
 by_cases h5 : 20 < f.lines.length
 ·exact .inr (.inr (.inr (.inr (.inl ⟨h1, h2, h3, h4, h5, by simp; omega⟩))))
 ·refine .inr (.inr (.inr (.inr (.inr ⟨h1, h2, h3, h4, h5, ?_⟩))))
  rw [dqt (show 1 ≤ f.farm by omega), dqt (show f.farm ≤ 60 by omega), dqt (show 0 ≤ f.day by omega), dqt (show f.day ≤ 36864 by omega), dqt (show f.lines.length ≤ 20 by omega)]; simp only [Bool.true_and]
theorem farm34_any {Q Q2 : Nat → Prop} (d : Nat) (r : RY) (l : YLaw) (rf : RF) (f : FarmF) (w : World) (h : YV Q w d r l) (hn : ∀ s ∈ l.sch, 0 ≤ s.num ∧ s.num ≤ 15) (hf : FV Q2 w rf f) :
  Calls Tryz.prog 68 #[.agg (yCells r).toArray, .agg (fCells rf).toArray] w (BoolG (farmB l f) w) := by
 have HL := mh hf.lines; have hlen := hf.lines.len; have FC := farmB_cases l f; obtain ⟨V, eV⟩ : ∃ V, farmB l f = V := ⟨_, rfl⟩; rw [eV] at FC ⊢; clear eV; have g1 := hf.farm; have g2 := hf.day; have g3 := hf.ln; clear hf; obtain ⟨fa, da, lp, ln, lc⟩ := rf; obtain ⟨fa', da', lines⟩ := f; simp only at g1 g2 g3 HL hlen FC; subst g1 g2 g3; have LN := mh (fun (W : World) (hW : Below w.heap.size w W) (Q3 : Nat → Prop) (rl : RL) (x : LineF) (hx : LV Q3 W rl x) => line34_any d r l rl x W (h.below hW) hn hx); simp only [yCells] at LN; clear h hn; have HA := mh (balloc mle (balloc mle (brf w.heap.size w) (.cells #[.slice r.sp r.sn r.sc, .slice r.tp r.tn r.tc, I O r.due, I O r.last, I O r.mille, .slice r.gp r.gn r.gc, I O r.cap, I O r.env, I O r.unit, I O r.width] 29)) (.cells #[I O fa, I O da, .slice lp lines.length lc] 47)); simp only [yCells, fCells]
 rcases FC with ⟨l1, l2⟩ | ⟨l1, l2, l3⟩ | ⟨l1, l2, l3, l4⟩ | ⟨l1, l2, l3, l4, l5⟩ | ⟨l1, l2, l3, l4, l5, l6⟩ | ⟨l1, l2, l3, l4, l5, l6⟩
 ·subst l2
  go_enter Tryz.func68, Tryz.ntmps68
  go_wp2
  go_ret
  exact ⟨rfl, HA.out⟩
 ·subst l3
  go_enter Tryz.func68, Tryz.ntmps68
  go_wp2
  go_ret
  exact ⟨rfl, HA.out⟩
 ·subst l4
  go_enter Tryz.func68, Tryz.ntmps68
  go_wp2
  go_ret
  exact ⟨rfl, HA.out⟩
 ·subst l5
  go_enter Tryz.func68, Tryz.ntmps68
  go_wp2
  go_ret
  exact ⟨rfl, HA.out⟩
 ·subst l6
  have l5' : (20 : Int) < (lines.length : Int) := by omega
  clear l5
  go_enter Tryz.func68, Tryz.ntmps68
  go_wp2
  go_ret
  exact ⟨rfl, HA.out⟩
 have l5' : ¬ (20 : Int) < (lines.length : Int) := by omega
 have EV := mh l6; have SZ := mh (show ((w.alloc (.cells #[.slice r.sp r.sn r.sc, .slice r.tp r.tn r.tc, I O r.due, I O r.last, I O r.mille, .slice r.gp r.gn r.gc, I O r.cap, I O r.env, I O r.unit, I O r.width] 29)).alloc (.cells #[I O fa, I O da, .slice lp lines.length lc] 47)).heap.size = w.heap.size + 2 by simp); obtain ⟨W2, eW2⟩ : ∃ W2, (w.alloc (.cells #[.slice r.sp r.sn r.sc, .slice r.tp r.tn r.tc, I O r.due, I O r.last, I O r.mille, .slice r.gp r.gn r.gc, I O r.cap, I O r.env, I O r.unit, I O r.width] 29)).alloc (.cells #[I O fa, I O da, .slice lp lines.length lc] 47) = W2 := ⟨_, rfl⟩; have EW := mh eW2
 have P := mh (show YCells W2 w.heap.size 0 r from by
  rw [← eW2]
  exact (YCells.box w r 29).below (balloc mle (brf (w.alloc (.cells #[.slice r.sp r.sn r.sc, .slice r.tp r.tn r.tc, I O r.due, I O r.last, I O r.mille, .slice r.gp r.gn r.gc, I O r.cap, I O r.env, I O r.unit, I O r.width] 29)).heap.size (w.alloc (.cells #[.slice r.sp r.sn r.sc, .slice r.tp r.tn r.tc, I O r.due, I O r.last, I O r.mille, .slice r.gp r.gn r.gc, I O r.cap, I O r.env, I O r.unit, I O r.width] 29))) (.cells #[I O fa, I O da, .slice lp lines.length lc] 47)) (by simp))
 rw [eW2] at SZ HA; clear eW2 l6
 go_enter Tryz.func68, Tryz.ntmps68
 go_wp2
 go_loopw [5, 35] (fun a i wr => ∃ k : Nat, k ≤ lines.length ∧ i = I O k ∧ a = I O (declSum (lines.take k)) ∧ (∀ j (h : j < lines.length), j < k → lineB l lines[j] = true) ∧ Below W2.heap.size W2 wr) (fun _ i _ => lines.length - (intOf i).toNat)
 case atStart => exact ⟨0, Nat.zero_le _, rfl, rfl, fun j _ hj => absurd hj (Nat.not_lt_zero j), by rw [← EW.out]; exact brf _ _⟩
 case round =>
  obtain ⟨wo, rfl⟩ : ∃ wo : World, wo = wr := ⟨_, rfl⟩; obtain ⟨k, hk, rfl, rfl, hall, hb⟩ := hrel; have HAL := mh hall; have HBW := mh (show Below w.heap.size w wo from bstep mle HA.out hb); have hk0 : (0 : Int) ≤ (k : Int) := inn _; have BD := declSum_bd hk hall
  by_cases hlt : k < lines.length
  ·have hk1 : (k : Int) < (lines.length : Int) := by omega
   obtain ⟨b, off, y, rfl, hbl, hC, hv⟩ := (HL.out.below HBW.out).at hlt; have ST := declSum_take hlt; have hyd := hv.decl; obtain ⟨dl, ls, dp, dn, dc, se, ki, ar, bo⟩ := y; obtain ⟨c0, c1, c2, c3, c4, c5, c6⟩ := hC; simp only at c0 c1 c2 c3 c4 c5 c6 hyd; have hbx := (brf wo.heap.size wo).alloc mle (.cells #[I O dl, I O ls, .slice dp dn dc, I O se, I O ki, I O ar, I O bo] 68); obtain ⟨q0, q1, q2, q3, q4, q5, q6, q7, q8, q9⟩ := (P.out.below hb (by rw [SZ.out]; omega)).below hbx (nll (show w.heap.size < W2.heap.size by rw [SZ.out]; omega) hb.size); simp only [Nat.zero_add] at q1 q2 q3 q4 q5 q6 q7 q8 q9; have HBX := mh (balloc mle HBW.out (.cells #[I O dl, I O ls, .slice dp dn dc, I O se, I O ki, I O ar, I O bo] 68)); have HBX2 := mh (balloc mle hb (.cells #[I O dl, I O ls, .slice dp dn dc, I O se, I O ki, I O ar, I O bo] 68)); have LC := mh (LN.out _ HBX.out Q2 ⟨dl, ls, dp, dn, dc, se, ki, ar, bo⟩ lines[k] (hv.below hbx)); simp only [lCells] at LC
   have HX := mh (fun (h : lineB l lines[k] = false) => show lines.all (lineB l) = false from by
    rw [← Bool.not_eq_true, List.all_eq_true]; intro h2; rw [h2 _ (List.getElem_mem hlt)] at h
    cases h)
   have LO := mh (fun (h : lineB l lines[k] = true) => lineOk.1 h); obtain ⟨bt, ebt⟩ : ∃ b, lineB l lines[k] = b := ⟨_, rfl⟩; rw [ebt] at LC HX LO; have EB := mh ebt; clear hv hall hb hbx ebt
   cases bt
   ·have HV := mh (HX.out rfl)
    clear ST BD hyd LO
    go_wp2_with (go_at_call 102; (with_reducible refine cmo LC.out ?_); rintro e w1 ⟨rfl, hb1⟩; have HB1 := mh (bstep mle HBX.out hb1); clear hb1)
    go_ret
    exact ⟨by rw [EV.out, HV.out]; rfl, HB1.out⟩
   ·have h0 := (LO.out rfl).d0
    have h1 := (LO.out rfl).d1; rw [← hyd] at h0 h1 ST; obtain ⟨A, eA⟩ : ∃ A, declSum (lines.take k) = A := ⟨_, rfl⟩; rw [eA] at BD ST ⊢; have hw : IntKind.i64.wrap (A + dl) = A + dl := by rw [IntKind.wrap_i64]; omega
    have STH := mh ST; clear ST BD hyd LO eA h0 h1
    go_wp2_with (go_at_call 102; (with_reducible refine cmo LC.out ?_); rintro e w1 ⟨rfl, hb1⟩; have HB1 := mh (bstep mle HBX2.out hb1); have k0 := mcell hb1 0; clear hb1)
    go_roundw
    case rel => exact ⟨k + 1, by omega, by go_num, by rw [STH.out], fun j hj h => by
     by_cases e : j = k
     ·subst e; exact EB.out
     ·exact HAL.out j hj (by omega), HB1.out⟩
    case measure => simp [intOf]; omega
  ·obtain rfl : k = lines.length := by omega
   have HV := mh (show lines.all (lineB l) = true from by
    rw [List.all_eq_true]; intro y hy; obtain ⟨j, hj, rfl⟩ := List.mem_iff_getElem.1 hy
    exact hall j hj hj)
   rw [List.take_length] at BD ⊢; obtain ⟨A, eA⟩ : ∃ A, declSum lines = A := ⟨_, rfl⟩; rw [eA] at BD EV ⊢; clear hall hb eA hk
   by_cases hs : A ≤ 268435456
   ·go_wp2
    go_ret
    exact ⟨by rw [EV.out, HV.out]; simp [hs], HBW.out⟩
   ·go_wp2
    go_ret
    exact ⟨by rw [EV.out, HV.out]; simp [hs], HBW.out⟩
end Go.Proofs.YtmlfcpglhipjgaaGreat
