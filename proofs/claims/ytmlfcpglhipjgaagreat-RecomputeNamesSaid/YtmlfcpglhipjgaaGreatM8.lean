/-
  PACKED (pack8.py): what is needed of the texts T1, T3, T4.
-/
import Derived.Test.YtmlfcpglhipjgaaGreatM5
set_option maxRecDepth 100000
set_option maxHeartbeats 4000000
open Go.Value renaming int → I
open Go.IntKind renaming i64 → O
namespace Go.Proofs.YtmlfcpglhipjgaaGreat
open Go.RowKit Te
def IntG (v : Int) (w : World) (e : Ending) (w' : World) : Prop := e = .returned (I O v) ∧ Below w.heap.size w w'
def cntJ (K : List Tm) (j : Nat) (most : Int) : Int := if 1 + (countL (K.take j) : Int) ≤ most then 1 + (countL (K.take j) : Int) else most + 1
def cntV (t : Tm) (most : Int) : Int := if (count t : Int) ≤ most then (count t : Int) else most + 1
theorem countL_append (A B : List Tm) : countL (A ++ B) = countL A + countL B := by
 induction A with
 | nil => simp [countL]
 | cons a r ih => rw [List.cons_append, countL, countL, ih]; omega
theorem countL_succ (K : List Tm) (j : Nat) (h : j < K.length) : countL (K.take (j + 1)) = countL (K.take j) + count K[j] := by
 rw [tsg h, countL_append, countL, countL]; omega
theorem countL_take (K : List Tm) (j : Nat) : countL (K.take j) ≤ countL K := by
 have := countL_append (K.take j) (K.drop j); rw [List.take_append_drop] at this; omega
theorem count_kids (t : Tm) : count t = 1 + countL t.kids := by cases t; rw [count]; rfl
theorem cntJ_zero (K : List Tm) (most : Int) (h : 0 ≤ most) : cntJ K 0 most = 1 := by
 unfold cntJ; simp only [List.take_zero, countL]; split <;> omega
theorem cntJ_succ (K : List Tm) (j : Nat) (h : j < K.length) (most : Int) (h2 : cntJ K j most ≤ most) : cntJ K j most + cntV K[j] (most - cntJ K j most) = cntJ K (j + 1) most := by
 unfold cntJ cntV at *; rw [countL_succ K j h]; have := count_pos K[j]
 split at h2
 ·split <;> split <;> omega
 ·omega
theorem cntJ_end (t : Tm) (most : Int) : cntJ t.kids t.kids.length most = cntV t most := by
 unfold cntJ cntV; rw [List.take_length, count_kids]; simp
theorem cntJ_over (t : Tm) (j : Nat) (most : Int) (h : most < cntJ t.kids j most) : cntJ t.kids j most = cntV t most := by
 unfold cntJ cntV at *; rw [count_kids]; have := countL_take t.kids j
 split at h
 ·omega
 ·rw [if_neg (by omega), if_neg (by omega)]
theorem cntJ_bd (K : List Tm) (j : Nat) (most : Int) (h : 0 ≤ most) : 1 ≤ cntJ K j most ∧ cntJ K j most ≤ most + 1 := by
 unfold cntJ; split <;> omega
theorem cntV_bd (t : Tm) (most : Int) (h : 0 ≤ most) : 1 ≤ cntV t most ∧ cntV t most ≤ most + 1 := by
 have := count_pos t; unfold cntV; split <;> omega
theorem count16_any {Q : Nat → Prop} : ∀ (d : Nat) (r : RT) (t : Tm) (most : Int) (w : World), TV Q w d r t → 0 ≤ most → most ≤ 1000000 →
  Calls Tryz.prog 177 #[.agg #[I O r.op, I O r.num, I O r.more, .slice r.p r.n r.c], I O most] w (IntG (cntV t most) w) := by
 intro d
 induction d using Nat.strongRecOn with
 | _ d ih =>
 intro r t most w h h0 h1; obtain ⟨ro, rn, rm, rp, rl, rc⟩ := r; obtain ⟨to_, tn, tm, K⟩ := t; have hat : TmsAt Q w d rp K := h.at_; have hlen : rl = K.length := h.is.n; have hn := hat.len; simp only; subst hlen; have HT := mh hat; have IH := mh ih; have CE := mh (show cntJ K K.length most = cntV (.mk to_ tn tm K) most from cntJ_end (.mk to_ tn tm K) most); have CO := mh (fun j => show most < cntJ K j most → cntJ K j most = cntV (.mk to_ tn tm K) most from cntJ_over (.mk to_ tn tm K) j most); have CB := mh (fun j => cntJ_bd K j most h0); have CS := mh (fun j h => cntJ_succ K j h most); have CZ := mh (cntJ_zero K most h0); obtain ⟨V, eV⟩ : ∃ V, cntV (.mk to_ tn tm K) most = V := ⟨_, rfl⟩; rw [eV] at CE CO ⊢; clear h ih eV hat
 go_enter Tryz.func177, Tryz.ntmps177
 go_wp2
 go_loopw [5, 11] (fun n i wr => ∃ j : Nat, j ≤ K.length ∧ i = I O j ∧ n = I O (cntJ K j most) ∧ Below w.heap.size w wr) (fun _ i _ => K.length - (intOf i).toNat)
 case atStart => exact ⟨0, Nat.zero_le _, rfl, by rw [CZ.out], (brf _ _).alloc mle _⟩
 case round =>
  clear CZ; obtain ⟨wo, rfl⟩ : ∃ wo : World, wo = wr := ⟨_, rfl⟩; obtain ⟨j, hj, rfl, rfl, hb⟩ := hrel; have HB := mh hb; have hj0 : (0 : Int) ≤ (j : Int) := inn _; obtain ⟨b1, b2⟩ := CB.out j
  by_cases hlt : j < K.length
  ·have hj1 : (j : Int) < (K.length : Int) := by omega
   obtain ⟨e, b, off, k, rfl, rfl, hbl, hc, hv⟩ := (HT.out.below hb).kid hlt; have CSj := mh (CS.out j hlt); have COj := mh (CO.out j); obtain ⟨N, eN⟩ : ∃ N, cntJ K j most = N := ⟨_, rfl⟩; rw [eN] at CSj COj b1 b2 ⊢; obtain ⟨c0, c1, c2, c3⟩ := hc; clear eN hb; have HK := mh (fun (W : World) (hW : Below wo.heap.size wo W) => IH.out e (by omega) k K[j] (most - N) W (hv.below hW)); clear hv
   by_cases hm : most < N
   ·have HF := mh (COj.out hm)
    go_wp2
    go_ret
    exact ⟨ret_int HF.out, balloc mle HB.out _⟩
   ·have HK2 := mh (HK.out _ ((brf _ _).alloc mle (.cells #[I O k.op, I O k.num, I O k.more, .slice k.p k.n k.c] 96)) (by omega) (by omega))
    have hvb := cntV_bd K[j] (most - N) (by omega); have CSK := mh (CSj.out (by omega)); obtain ⟨V2, eV2⟩ : ∃ V2, cntV K[j] (most - N) = V2 := ⟨_, rfl⟩; rw [eV2] at hvb CSK HK2; clear eV2 HK
    go_wp2_with (first | (go_at_call 177; (with_reducible refine cmo HK2.out ?_); rintro e w1 ⟨rfl, hb1⟩))
    go_roundw
    case rel => exact ⟨j + 1, by omega, by go_num, by rw [CSK.out], bstep mle (balloc mle HB.out _) hb1⟩
    case measure => simp [intOf]; omega
  ·obtain rfl : j = K.length := by omega
   rw [CE.out]; clear hb b1 b2
   go_wp2
   go_ret
   exact ⟨rfl, HB.out⟩
def lowT (o : Int) : Int := if o = 2 then 0 else if o = 3 then 0 else if o = 4 then 1 else if o = 5 then 0 else if o = 6 then 2 else if o = 7 ∨ o = 8 then 1 else 0
def highT (o : Int) : Int := if o = 2 then 39 else if o = 3 then 40 else if o = 4 then 16 else if o = 5 then 15 else if o = 6 then 10 else if o = 7 ∨ o = 8 then 10 else 0
def hasT (o : Int) : Bool := decide (2 ≤ o) && decide (o ≤ 8)
def leastT (o : Int) : Int := if o = 9 ∨ o = 10 then 1 else if o = 11 then 1 else 0
def mostT (o : Int) : Int := if o = 9 ∨ o = 10 then 40 else if o = 11 then 1 else 0
theorem self_split {o n m : Int} {k : Nat} (ho : 1 ≤ o) (ho2 : o ≤ 11) :
  (selfB o n m k && decide (k ≤ 40)) = true ↔ (if hasT o = true then lowT o ≤ n ∧ n ≤ highT o else n = 0) ∧ (o = 4 → single n = true) ∧ (if o = 7 then single m = true else m = 0) ∧ leastT o ≤ (k : Int) ∧ (k : Int) ≤ mostT o := by
 have : o = 1 ∨ o = 2 ∨ o = 3 ∨ o = 4 ∨ o = 5 ∨ o = 6 ∨ o = 7 ∨ o = 8 ∨ o = 9 ∨ o = 10 ∨ o = 11 := by omega
 have hs : single n = true → 1 ≤ n ∧ n ≤ 16 := by
  unfold single; simp only [Bool.or_eq_true, beq_iff_eq]; omega
 have hk : (k == 1) = true ↔ k = 1 := beq_iff_eq; have hk0 : (k == 0) = true ↔ k = 0 := beq_iff_eq; have hn0 : (n == 0) = true ↔ n = 0 := beq_iff_eq; have hm0 : (m == 0) = true ↔ m = 0 := beq_iff_eq
 cases hsn : single n <;> cases hsm : single m <;> simp only [hsn, true_implies, Bool.false_eq_true, false_implies] at hs <;>
  (rcases this with rfl | rfl | rfl | rfl | rfl | rfl | rfl | rfl | rfl | rfl | rfl <;> simp [selfB, hasT, lowT, highT, leastT, mostT, hsn, hsm] <;> omega)
theorem right_fail {d : Nat} {o n m : Int} {K : List Tm} (h : (selfB o n m K.length && decide (K.length ≤ 40)) = false) : rightB (d + 1) (.mk o n m K) = false := by
 rw [rightB, h, Bool.false_and]
theorem right_self {d : Nat} {o n m : Int} {K : List Tm} (h : (selfB o n m K.length && decide (K.length ≤ 40)) = true) : rightB (d + 1) (.mk o n m K) = K.all (rightB d) := by
 rw [rightB, h, Bool.true_and]
theorem self_out {o n m : Int} {k : Nat} (h : o < 1 ∨ 11 < o) : (selfB o n m k && decide (k ≤ 40)) = false := by
 unfold selfB; rw [if_neg (by omega), if_neg (by omega), if_neg (by omega), if_neg (by omega), if_neg (by omega), if_neg (by omega), if_neg (by omega), if_neg (by omega), if_neg (by omega), if_neg (by omega)]
 rfl
theorem limits_any (o : Int) (w : World) : Calls Tryz.prog 207 #[I O o] w fun e w' => e = .returned (.tuple #[I O (lowT o), I O (highT o), .bool (hasT o)]) ∧ w = w' := by
 by_cases h2 : o = 2
 ·subst h2
  go_enter Tryz.func207, Tryz.ntmps207
  go_wp2
  go_ret3
  exact ⟨rfl, rfl⟩
 by_cases h3 : o = 3
 ·subst h3
  go_enter Tryz.func207, Tryz.ntmps207
  go_wp2
  go_ret3
  exact ⟨rfl, rfl⟩
 by_cases h4 : o = 4
 ·subst h4
  go_enter Tryz.func207, Tryz.ntmps207
  go_wp2
  go_ret3
  exact ⟨rfl, rfl⟩
 by_cases h5 : o = 5
 ·subst h5
  go_enter Tryz.func207, Tryz.ntmps207
  go_wp2
  go_ret3
  exact ⟨rfl, rfl⟩
 by_cases h6 : o = 6
 ·subst h6
  go_enter Tryz.func207, Tryz.ntmps207
  go_wp2
  go_ret3
  exact ⟨rfl, rfl⟩
 by_cases h7 : o = 7
 ·subst h7
  go_enter Tryz.func207, Tryz.ntmps207
  go_wp2
  go_ret3
  exact ⟨rfl, rfl⟩
 by_cases h8 : o = 8
 ·subst h8
  go_enter Tryz.func207, Tryz.ntmps207
  go_wp2
  go_ret3
  exact ⟨rfl, rfl⟩
 have e1 : lowT o = 0 := by unfold lowT; rw [if_neg h2, if_neg h3, if_neg h4, if_neg h5, if_neg h6, if_neg (by omega)]
 have e2 : highT o = 0 := by unfold highT; rw [if_neg h2, if_neg h3, if_neg h4, if_neg h5, if_neg h6, if_neg (by omega)]
 have e3 : hasT o = false := by unfold hasT; cases h : (decide (2 ≤ o) && decide (o ≤ 8)) <;> simp at h ⊢; omega
 rw [e1, e2, e3]; clear e1 e2 e3
 go_enter Tryz.func207, Tryz.ntmps207
 go_wp2
 go_ret3
 exact ⟨rfl, rfl⟩
theorem kids_any (o : Int) (w : World) : Calls Tryz.prog 208 #[I O o] w fun e w' => e = .returned (.tuple #[I O (leastT o), I O (mostT o)]) ∧ w = w' := by
 by_cases h2 : o = 9
 ·subst h2
  go_enter Tryz.func208, Tryz.ntmps208
  go_wp2
  go_ret2
  exact ⟨rfl, rfl⟩
 by_cases h3 : o = 10
 ·subst h3
  go_enter Tryz.func208, Tryz.ntmps208
  go_wp2
  go_ret2
  exact ⟨rfl, rfl⟩
 by_cases h4 : o = 11
 ·subst h4
  go_enter Tryz.func208, Tryz.ntmps208
  go_wp2
  go_ret2
  exact ⟨rfl, rfl⟩
 have e1 : leastT o = 0 := by unfold leastT; rw [if_neg (by omega), if_neg h4]
 have e2 : mostT o = 0 := by unfold mostT; rw [if_neg (by omega), if_neg h4]
 rw [e1, e2]; clear e1 e2
 go_enter Tryz.func208, Tryz.ntmps208
 go_wp2
 go_ret2
 exact ⟨rfl, rfl⟩
theorem single_any (n : Int) (w : World) : Calls Tryz.prog 209 #[I O n] w fun e w' => e = .returned (.bool (single n)) ∧ w = w' := by
 by_cases h1 : n < 1
 ·have e : single n = false := by
   unfold single; simp only [Bool.or_eq_false_iff, beq_eq_false_iff_ne]; omega
  rw [e]; clear e
  go_enter Tryz.func209, Tryz.ntmps209
  go_wp2
  go_ret
  exact ⟨rfl, rfl⟩
 by_cases h2 : 16 < n
 ·have e : single n = false := by
   unfold single; simp only [Bool.or_eq_false_iff, beq_eq_false_iff_ne]; omega
  rw [e]; clear e
  go_enter Tryz.func209, Tryz.ntmps209
  go_wp2
  go_ret
  exact ⟨rfl, rfl⟩
 have : n = 1 ∨ n = 2 ∨ n = 3 ∨ n = 4 ∨ n = 5 ∨ n = 6 ∨ n = 7 ∨ n = 8 ∨ n = 9 ∨ n = 10 ∨ n = 11 ∨ n = 12 ∨ n = 13 ∨ n = 14 ∨ n = 15 ∨ n = 16 := by omega
 clear h1 h2
 rcases this with rfl | rfl | rfl | rfl | rfl | rfl | rfl | rfl | rfl | rfl | rfl | rfl | rfl | rfl | rfl | rfl
 all_goals
  go_enter Tryz.func209, Tryz.ntmps209
  go_wp2
  go_ret
  exact ⟨by kernel_rfl, rfl⟩
def BoolG (b : Bool) (w : World) (e : Ending) (w' : World) : Prop := e = .returned (.bool b) ∧ Below w.heap.size w w'
def RightAt (Q : Nat → Prop) (D : Nat) : Prop := ∀ (d : Nat) (r : RT) (t : Tm) (w : World), TV Q w d r t →
    Calls Tryz.prog 178 #[.agg #[I O r.op, I O r.num, I O r.more, .slice r.p r.n r.c], I O (D : Int)] w (BoolG (rightB D t) w)
theorem rightp_any {Q : Nat → Prop} {D : Nat} (hD : D ≤ 1000) (IH : RightAt Q D) (d : Nat) (r : RT) (t : Tm) (w : World) (bd : Nat) (h : TV Q w d r t) (hc : w.cell? ⟨bd, 0, none⟩ = some (I O ((D : Int) + 1))) (hl : bd < w.heap.size) :
  Calls Tryz.prog 211 #[.agg #[I O r.op, I O r.num, I O r.more, .slice r.p r.n r.c], .pointer (some ⟨bd, 0, none⟩)] w (BoolG (!rightB D t) w) := by
 have HI := mh (IH d r t _ (h.below ((brf _ _).alloc mle (.cells #[I O r.op, I O r.num, I O r.more, .slice r.p r.n r.c] 96)))); have hz : (D : Int) + 1 - 1 = (D : Int) := by omega
 clear IH h
 go_enter Tryz.func211, Tryz.ntmps211
 go_wp2_with (first | (go_at_call 178; (with_reducible refine cmo HI.out ?_); rintro e w1 ⟨rfl, hb1⟩))
 go_ret
 exact ⟨rfl, bstep mle ((brf _ _).alloc mle _) hb1⟩
def IxG (b : Bool) (w : World) (e : Ending) (w' : World) : Prop := ∃ r : Int, e = .returned (I O r) ∧ decide (0 ≤ r) = b ∧ -1 ≤ r ∧ Below w.heap.size w w'
theorem indexterm_any {Q : Nat → Prop} {D : Nat} (hD : D ≤ 1000) (IH : RightAt Q D) (d : Nat) (p : Option Addr) (K : List Tm) (cap bd : Nat) (w : World) (h : TmsAt Q w d p K) (hc : w.cell? ⟨bd, 0, none⟩ = some (I O ((D : Int) + 1))) (hl : bd < w.heap.size) :
  Calls Tryz.prog 228 #[.slice p K.length cap, .func (.func 211) #[] #[.pointer (some ⟨bd, 0, none⟩)]] w (IxG (K.any fun k => !rightB D k) w) := by
 have hn := h.len; have H := mh h; have HC := mh hc; have HI := mh IH; clear h hc IH
 go_enter Tryz.func228, Tryz.ntmps228
 go_wp2
 go_loopw [8] (fun i wr => ∃ k : Nat, k ≤ K.length ∧ i = I O k ∧ (K.take k).any (fun k => !rightB D k) = false ∧ Below w.heap.size w wr) (fun i _ => K.length - (intOf i).toNat)
 case atStart => exact ⟨0, Nat.zero_le _, rfl, rfl, brf _ _⟩
 case round =>
  obtain ⟨wo, rfl⟩ : ∃ wo : World, wo = wr := ⟨_, rfl⟩; obtain ⟨k, hk, rfl, ha, hb⟩ := hrel; have HA := mh ha; have HB := mh hb; have hsz := hb.size; have hk0 : (0 : Int) ≤ (k : Int) := inn _
  by_cases hlt : k < K.length
  ·have hk1 : (k : Int) < (K.length : Int) := by omega
   obtain ⟨e, b, off, r, rfl, rfl, hbl, hcs, hv⟩ := (H.out.below hb).kid hlt; have CN := mh (rightp_any hD HI.out e r K[k] wo bd hv ((hb.cell (p := ⟨bd, 0, none⟩) hl).trans HC.out) (by omega))
   have HS := mh (show (K.take (k + 1)).any (fun k => !rightB D k) = !rightB D K[k] by
    rw [tsg hlt, List.any_append, HA.out, Bool.false_or]; simp)
   have HM := mh (show (!rightB D K[k]) = true → K.any (fun k => !rightB D k) = true from fun e => List.any_eq_true.2 ⟨K[k], List.getElem_mem hlt, e⟩); obtain ⟨bb, ebb⟩ : ∃ x, (!rightB D K[k]) = x := ⟨_, rfl⟩; rw [ebb] at HS HM CN; obtain ⟨c0, c1, c2, c3⟩ := hcs; clear ha hb hv ebb
   cases bb
   ·go_wp2_with (first | (go_at_call 211; (with_reducible refine cmo CN.out ?_); rintro e w1 ⟨rfl, hb1⟩))
    go_roundw
    case rel => exact ⟨k + 1, by omega, by go_num, HS.out, bstep mle HB.out hb1⟩
    case measure => simp [intOf]; omega
   ·go_wp2_with (first | (go_at_call 211; (with_reducible refine cmo CN.out ?_); rintro e w1 ⟨rfl, hb1⟩))
    go_ret
    exact ⟨(k : Int), rfl, by rw [HM.out trivial]; exact dqt hk0, by omega, bstep mle HB.out hb1⟩
  ·obtain rfl : k = K.length := by omega
   rw [List.take_of_length_le mle] at ha; have HA2 := mh ha; clear ha hb
   go_wp2
   go_ret
   exact ⟨-1, rfl, by rw [HA2.out]; rfl, by omega, HB.out⟩
theorem containsterm_any {Q : Nat → Prop} {D : Nat} (hD : D ≤ 1000) (IH : RightAt Q D) (d : Nat) (p : Option Addr) (K : List Tm) (cap bd : Nat) (w : World) (h : TmsAt Q w d p K) (hc : w.cell? ⟨bd, 0, none⟩ = some (I O ((D : Int) + 1))) (hl : bd < w.heap.size) :
  Calls Tryz.prog 210 #[.slice p K.length cap, .func (.func 211) #[] #[.pointer (some ⟨bd, 0, none⟩)]] w (BoolG (K.any fun k => !rightB D k) w) := by
 have CI := mh (indexterm_any hD IH d p K cap bd w h hc hl); clear h hc IH
 go_enter Tryz.func210, Tryz.ntmps210
 go_wp2_with (first | (go_at_call 228; (with_reducible refine cmo CI.out ?_); rintro e w1 ⟨r, rfl, hr, hr1, hb⟩; have HR := mh hr; clear hr))
 go_ret
 exact ⟨ret_bool HR.out, hb⟩
theorem right_zero (Q : Nat → Prop) : RightAt Q 0 := by
 intro d r t w h; have e : rightB 0 t = false := by rw [rightB]
 rw [e]; clear e h; obtain ⟨o, n, m, p, l, c⟩ := r; have LM := mh (fun W => limits_any o W); have KD := mh (fun W => kids_any o W); obtain ⟨lo, elo⟩ : ∃ x, lowT o = x := ⟨_, rfl⟩; obtain ⟨hi, ehi⟩ : ∃ x, highT o = x := ⟨_, rfl⟩; obtain ⟨hs, ehs⟩ : ∃ x, hasT o = x := ⟨_, rfl⟩; obtain ⟨le, ele⟩ : ∃ x, leastT o = x := ⟨_, rfl⟩; obtain ⟨mo, emo⟩ : ∃ x, mostT o = x := ⟨_, rfl⟩; rw [elo, ehi, ehs] at LM; rw [ele, emo] at KD; clear elo ehi ehs ele emo; simp only
 by_cases h1 : o < 1
 ·go_enter Tryz.func178, Tryz.ntmps178
  go_wp2_with (first | (go_at_call 207; (with_reducible refine cmo (LM.out _) ?_); rintro e w1 ⟨rfl, rfl⟩) | (go_at_call 208; (with_reducible refine cmo (KD.out _) ?_); rintro e w1 ⟨rfl, rfl⟩))
  go_ret
  exact ⟨rfl, by go_grown⟩
 by_cases h2 : 11 < o
 ·go_enter Tryz.func178, Tryz.ntmps178
  go_wp2_with (first | (go_at_call 207; (with_reducible refine cmo (LM.out _) ?_); rintro e w1 ⟨rfl, rfl⟩) | (go_at_call 208; (with_reducible refine cmo (KD.out _) ?_); rintro e w1 ⟨rfl, rfl⟩))
  go_ret
  exact ⟨rfl, by go_grown⟩
 ·go_enter Tryz.func178, Tryz.ntmps178
  go_wp2_with (first | (go_at_call 207; (with_reducible refine cmo (LM.out _) ?_); rintro e w1 ⟨rfl, rfl⟩) | (go_at_call 208; (with_reducible refine cmo (KD.out _) ?_); rintro e w1 ⟨rfl, rfl⟩))
  go_ret
  exact ⟨rfl, by go_grown⟩
end Go.Proofs.YtmlfcpglhipjgaaGreat
