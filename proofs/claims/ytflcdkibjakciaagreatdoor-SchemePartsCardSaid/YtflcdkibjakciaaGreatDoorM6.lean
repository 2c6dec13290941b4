/-
  MERGED (mergek.py): the texts T4, T21.
-/
import Derived.Test.YtflcdkibjakciaaGreatDoorM5

namespace Go.Proofs.YtflcdkibjakciaaGreatDoor
open Go.RowKit Te

def BoolG (b : Bool) (w : World) (e : Ending) (w' : World) : Prop := e = .returned (.bool b) ∧ Below w.heap.size w w'

/-- What right says of any term in memory, at most so deep. -/
def RightAt (Q : Nat → Prop) (D : Nat) : Prop := ∀ (d : Nat) (r : RT) (t : Tm) (w : World), TV Q w d r t →
    Calls Tryz.prog 99 #[.agg #[.int .i64 r.op, .int .i64 r.num, .int .i64 r.more, .slice r.p r.n r.c], .int .i64 (D : Int)] w (BoolG (rightB D t) w)

set_option maxHeartbeats 2000000 in
theorem rightp_any {Q : Nat → Prop} {D : Nat} (hD : D ≤ 1000) (IH : RightAt Q D) (d : Nat) (r : RT) (t : Tm) (w : World) (bd : Nat) (h : TV Q w d r t) (hc : w.cell? ⟨bd, 0, none⟩ = some (.int .i64 ((D : Int) + 1))) (hl : bd < w.heap.size) :
    Calls Tryz.prog 130 #[.agg #[.int .i64 r.op, .int .i64 r.num, .int .i64 r.more, .slice r.p r.n r.c], .pointer (some ⟨bd, 0, none⟩)] w (BoolG (!rightB D t) w) := by
  have HI := Lib.hid (IH d r t _ (h.below ((Below.refl _ _).alloc (Nat.le_refl _) (.cells #[.int .i64 r.op, .int .i64 r.num, .int .i64 r.more, .slice r.p r.n r.c] 29))))
  have hz : (D : Int) + 1 - 1 = (D : Int) := by omega
  clear IH h
  go_enter Tryz.func130, Tryz.ntmps130
  go_wp2_with (first | (go_at_call 99; (with_reducible refine Calls.mono HI.out ?_); rintro e w1 ⟨rfl, hb1⟩))
  go_ret
  exact ⟨rfl, bstep (Nat.le_refl _) ((Below.refl _ _).alloc (Nat.le_refl _) _) hb1⟩

def IxG (b : Bool) (w : World) (e : Ending) (w' : World) : Prop := ∃ r : Int, e = .returned (.int .i64 r) ∧ decide (0 ≤ r) = b ∧ -1 ≤ r ∧ Below w.heap.size w w'

set_option maxRecDepth 100000 in
set_option maxHeartbeats 4000000 in
theorem indexterm_any {Q : Nat → Prop} {D : Nat} (hD : D ≤ 1000) (IH : RightAt Q D) (d : Nat) (p : Option Addr) (K : List Tm) (cap bd : Nat) (w : World) (h : TmsAt Q w d p K) (hc : w.cell? ⟨bd, 0, none⟩ = some (.int .i64 ((D : Int) + 1))) (hl : bd < w.heap.size) :
    Calls Tryz.prog 147 #[.slice p K.length cap, .func (.func 130) #[] #[.pointer (some ⟨bd, 0, none⟩)]] w (IxG (K.any fun k => !rightB D k) w) := by
  have hn := h.len
  have H := Lib.hid h
  have HC := Lib.hid hc
  have HI := Lib.hid IH
  clear h hc IH
  go_enter Tryz.func147, Tryz.ntmps147
  go_wp2
  go_loopw [8] (fun i wr => ∃ k : Nat, k ≤ K.length ∧ i = .int .i64 k ∧ (K.take k).any (fun k => !rightB D k) = false ∧ Below w.heap.size w wr) (fun i _ => K.length - (intOf i).toNat)
  case atStart => exact ⟨0, Nat.zero_le _, rfl, rfl, Below.refl _ _⟩
  case round =>
    obtain ⟨wo, rfl⟩ : ∃ wo : World, wo = wr := ⟨_, rfl⟩
    obtain ⟨k, hk, rfl, ha, hb⟩ := hrel
    have HA := Lib.hid ha
    have HB := Lib.hid hb
    have hsz := hb.size
    have hk0 : (0 : Int) ≤ (k : Int) := Int.natCast_nonneg _
    by_cases hlt : k < K.length
    · have hk1 : (k : Int) < (K.length : Int) := by omega
      obtain ⟨e, b, off, r, rfl, rfl, hbl, hcs, hv⟩ := (H.out.below hb).kid hlt
      have CN := Lib.hid (rightp_any hD HI.out e r K[k] wo bd hv ((hb.cell (p := ⟨bd, 0, none⟩) hl).trans HC.out) (by omega))
      have HS := Lib.hid (show (K.take (k + 1)).any (fun k => !rightB D k) = !rightB D K[k] by
        rw [List.take_succ_eq_append_getElem hlt, List.any_append, HA.out, Bool.false_or]; simp)
      have HM := Lib.hid (show (!rightB D K[k]) = true → K.any (fun k => !rightB D k) = true from fun e => List.any_eq_true.2 ⟨K[k], List.getElem_mem hlt, e⟩)
      obtain ⟨bb, ebb⟩ : ∃ x, (!rightB D K[k]) = x := ⟨_, rfl⟩
      rw [ebb] at HS HM CN
      obtain ⟨c0, c1, c2, c3⟩ := hcs
      clear ha hb hv ebb
      cases bb
      · go_wp2_with (first | (go_at_call 130; (with_reducible refine Calls.mono CN.out ?_); rintro e w1 ⟨rfl, hb1⟩))
        go_roundw
        case rel => exact ⟨k + 1, by omega, by go_num, HS.out, bstep (Nat.le_refl _) HB.out hb1⟩
        case measure => simp [intOf]; omega
      · go_wp2_with (first | (go_at_call 130; (with_reducible refine Calls.mono CN.out ?_); rintro e w1 ⟨rfl, hb1⟩))
        go_ret
        exact ⟨(k : Int), rfl, by rw [HM.out trivial]; exact decide_eq_true hk0, by omega, bstep (Nat.le_refl _) HB.out hb1⟩
    · obtain rfl : k = K.length := by omega
      rw [List.take_of_length_le (Nat.le_refl _)] at ha
      have HA2 := Lib.hid ha
      clear ha hb
      go_wp2
      go_ret
      exact ⟨-1, rfl, by rw [HA2.out]; rfl, by omega, HB.out⟩

set_option maxHeartbeats 2000000 in
theorem containsterm_any {Q : Nat → Prop} {D : Nat} (hD : D ≤ 1000) (IH : RightAt Q D) (d : Nat) (p : Option Addr) (K : List Tm) (cap bd : Nat) (w : World) (h : TmsAt Q w d p K) (hc : w.cell? ⟨bd, 0, none⟩ = some (.int .i64 ((D : Int) + 1))) (hl : bd < w.heap.size) :
    Calls Tryz.prog 129 #[.slice p K.length cap, .func (.func 130) #[] #[.pointer (some ⟨bd, 0, none⟩)]] w (BoolG (K.any fun k => !rightB D k) w) := by
  have CI := Lib.hid (indexterm_any hD IH d p K cap bd w h hc hl)
  clear h hc IH
  go_enter Tryz.func129, Tryz.ntmps129
  go_wp2_with (first | (go_at_call 147; (with_reducible refine Calls.mono CI.out ?_); rintro e w1 ⟨r, rfl, hr, hr1, hb⟩; have HR := Lib.hid hr; clear hr))
  go_ret
  exact ⟨ret_bool HR.out, hb⟩

/-- The first tests of right, in order; what is left of it. -/
theorem right_zero (Q : Nat → Prop) : RightAt Q 0 := by
  intro d r t w h
  have e : rightB 0 t = false := by rw [rightB]
  rw [e]
  clear e h
  obtain ⟨o, n, m, p, l, c⟩ := r
  have LM := Lib.hid (fun W => limits_any o W)
  have KD := Lib.hid (fun W => kids_any o W)
  obtain ⟨lo, elo⟩ : ∃ x, lowT o = x := ⟨_, rfl⟩
  obtain ⟨hi, ehi⟩ : ∃ x, highT o = x := ⟨_, rfl⟩
  obtain ⟨hs, ehs⟩ : ∃ x, hasT o = x := ⟨_, rfl⟩
  obtain ⟨le, ele⟩ : ∃ x, leastT o = x := ⟨_, rfl⟩
  obtain ⟨mo, emo⟩ : ∃ x, mostT o = x := ⟨_, rfl⟩
  rw [elo, ehi, ehs] at LM
  rw [ele, emo] at KD
  clear elo ehi ehs ele emo
  simp only
  by_cases h1 : o < 1
  · go_enter Tryz.func99, Tryz.ntmps99
    go_wp2_with (first | (go_at_call 126; (with_reducible refine Calls.mono (LM.out _) ?_); rintro e w1 ⟨rfl, rfl⟩) | (go_at_call 127; (with_reducible refine Calls.mono (KD.out _) ?_); rintro e w1 ⟨rfl, rfl⟩))
    go_ret
    exact ⟨rfl, by go_grown⟩
  by_cases h2 : 11 < o
  · go_enter Tryz.func99, Tryz.ntmps99
    go_wp2_with (first | (go_at_call 126; (with_reducible refine Calls.mono (LM.out _) ?_); rintro e w1 ⟨rfl, rfl⟩) | (go_at_call 127; (with_reducible refine Calls.mono (KD.out _) ?_); rintro e w1 ⟨rfl, rfl⟩))
    go_ret
    exact ⟨rfl, by go_grown⟩
  · go_enter Tryz.func99, Tryz.ntmps99
    go_wp2_with (first | (go_at_call 126; (with_reducible refine Calls.mono (LM.out _) ?_); rintro e w1 ⟨rfl, rfl⟩) | (go_at_call 127; (with_reducible refine Calls.mono (KD.out _) ?_); rintro e w1 ⟨rfl, rfl⟩))
    go_ret
    exact ⟨rfl, by go_grown⟩

end Go.Proofs.YtflcdkibjakciaaGreatDoor

namespace Go.Proofs.YtflcdkibjakciaaGreatDoor
open Go.RowKit Te Sc

theorem brB_bad {l : List Brk} {k : Nat} (hk : k < l.length) (h : brAt l k = false) : brB l = false := by
  unfold brB
  cases e : brAll l l.length with
  | false => rfl
  | true =>
    have := brAll_mono (show k + 1 ≤ l.length by omega) e
    rw [brAll_succ, h, Bool.and_false] at this
    cases this

/-- What one bracket's test is. -/
theorem brAt_parts {l : List Brk} {k : Nat} (hk : k < l.length) {up rate prev : Int} (e : l[k] = ⟨up, rate⟩) (hp : upB l k = prev) :
    (up ≤ prev ∨ 268435456 < up ∨ rate < 0 ∨ 1048576 < rate → brAt l k = false) ∧ (prev < up → up ≤ 268435456 → 0 ≤ rate → rate ≤ 1048576 → brAt l k = true) := by
  rw [brAt_some hk, e, hp]
  constructor
  · intro h
    rw [Bool.eq_false_iff]
    intro h2
    simp only [Bool.and_eq_true, decide_eq_true_eq] at h2
    omega
  · intro h1 h2 h3 h4
    simp only [Bool.and_eq_true, decide_eq_true_eq]
    exact ⟨h1, h2, h3, h4⟩

set_option maxRecDepth 100000 in
set_option maxHeartbeats 3000000 in
theorem brackets_any (p : Option Addr) (l : List Brk) (n c : Nat) (w : World) (hn : n = l.length) (h : Recs SBk w p l) : Calls Tryz.prog 61 #[.slice p n c] w (BoolG (brB l) w) := by
  subst hn
  have hl := h.len
  have H := Lib.hid h
  clear h
  go_enter Tryz.func61, Tryz.ntmps61
  go_wp2
  go_loopw [7] (fun i wr => ∃ k : Nat, k ≤ l.length ∧ i = .int .i64 k ∧ brAll l k = true ∧ Below w.heap.size w wr) (fun i _ => l.length - (intOf i).toNat)
  case atStart => exact ⟨0, Nat.zero_le _, rfl, rfl, Below.refl _ _⟩
  case round =>
    obtain ⟨wo, rfl⟩ : ∃ wo : World, wo = wr := ⟨_, rfl⟩
    obtain ⟨k, hk, rfl, ha, hb⟩ := hrel
    have HA := Lib.hid ha
    have HB := Lib.hid hb
    have hk0 : (0 : Int) ≤ (k : Int) := Int.natCast_nonneg _
    by_cases hlt : k < l.length
    · have hk1 : (k : Int) < (l.length : Int) := by omega
      obtain ⟨b, off, x, rfl, hbl, x0, x1, hx⟩ := SBk_at (H.out.below hb) hlt
      have HH := Lib.hid (H.out.below hb)
      obtain ⟨up, rate⟩ := x
      simp only at x0 x1
      obtain ⟨prev, ep⟩ : ∃ pv, upB l k = pv := ⟨_, rfl⟩
      have hpv : 0 ≤ prev := by rw [← ep]; exact upB_nonneg hk ha
      obtain ⟨bad, good⟩ := brAt_parts hlt hx.out ep
      have BAD := Lib.hid (fun h => brB_bad hlt (bad h))
      have GOOD := Lib.hid (fun h1 h2 h3 h4 => (show brAll l (k + 1) = true by rw [brAll_succ, HA.out, good h1 h2 h3 h4]; rfl))
      have HP := Lib.hid ep
      have HB1 := Lib.hid (balloc (Nat.le_refl _) HB.out (.cells #[.int .i64 up, .int .i64 rate] 34))
      clear ha hb hx ep bad good
      by_cases g1 : up < 1
      · have HV := Lib.hid (BAD.out (.inl (by omega)))
        have d1 : decide (up < 1) = true := decide_eq_true g1
        clear g1
        go_wp2_with fail
        go_quiet (fail)
        go_wp2
        go_ret
        exact ⟨ret_bool HV.out.symm, HB1.out.trans ((drewN_below _ _).mono HB1.out.size)⟩
      have d1 : decide (up < 1) = false := decide_eq_false g1
      by_cases g2 : 268435456 < up
      · have HV := Lib.hid (BAD.out (.inr (.inl g2)))
        have d2 : decide (268435456 < up) = true := decide_eq_true g2
        clear g1 g2
        go_wp2_with fail
        go_quiet (fail)
        go_wp2
        go_ret
        exact ⟨ret_bool HV.out.symm, HB1.out.trans ((drewN_below _ _).mono HB1.out.size)⟩
      have d2 : decide (268435456 < up) = false := decide_eq_false g2
      by_cases g3 : rate < 0
      · have HV := Lib.hid (BAD.out (.inr (.inr (.inl g3))))
        have d3 : decide (rate < 0) = true := decide_eq_true g3
        clear g1 g2 g3
        go_wp2_with fail
        go_quiet (fail)
        go_wp2
        go_ret
        exact ⟨ret_bool HV.out.symm, HB1.out.trans ((drewN_below _ _).mono HB1.out.size)⟩
      have d3 : decide (rate < 0) = false := decide_eq_false g3
      by_cases g4 : 1048576 < rate
      · have HV := Lib.hid (BAD.out (.inr (.inr (.inr g4))))
        have d4 : decide (1048576 < rate) = true := decide_eq_true g4
        clear g1 g2 g3 g4
        go_wp2_with fail
        go_quiet (fail)
        go_wp2
        go_ret
        exact ⟨ret_bool HV.out.symm, HB1.out.trans ((drewN_below _ _).mono HB1.out.size)⟩
      have d4 : decide (1048576 < rate) = false := decide_eq_false g4
      rcases Nat.eq_zero_or_pos k with hk00 | hkp
      · have hk2 : decide (0 < k) = false := by rw [decide_eq_false_iff_not]; omega
        have hp0 : prev = 0 := by rw [← HP.out, hk00]; rfl
        have HN := Lib.hid (GOOD.out (by omega) (by omega) (by omega) (by omega))
        clear hk00 hp0 g1 g2 g3 g4
        go_wp2_with fail
        go_quiet (fail)
        go_wp2
        go_roundw
        case rel => exact ⟨k + 1, by omega, by go_num, HN.out, HB1.out.trans ((drewN_below _ _).mono HB1.out.size)⟩
        case measure => simp [intOf]; omega
      · obtain ⟨m, rfl⟩ : ∃ m, k = m + 1 := ⟨k - 1, by omega⟩
        obtain ⟨b', off', y, ey, -, y0, -, hy⟩ := SBk_at HH.out (show m < l.length by omega)
        cases ey
        have hyp : y.up = prev := by rw [← HP.out, upB_succ (show m < l.length by omega), hy.out]
        obtain ⟨yu, yr⟩ := y
        simp only at y0 hyp
        subst hyp
        clear hy
        by_cases g5 : up ≤ yu
        · have HV := Lib.hid (BAD.out (.inl g5))
          have d5 : decide (up ≤ yu) = true := decide_eq_true g5
          clear g1 g2 g3 g4 g5
          go_wp2_with fail
          go_quiet (fail)
          go_wp2
          go_ret
          exact ⟨ret_bool HV.out.symm, HB1.out.trans ((drewN_below _ _).mono HB1.out.size)⟩
        · have HN := Lib.hid (GOOD.out (by omega) (by omega) (by omega) (by omega))
          have d5 : decide (up ≤ yu) = false := decide_eq_false g5
          clear g1 g2 g3 g4 g5
          go_wp2_with fail
          go_quiet (fail)
          go_wp2
          go_roundw
          case rel => exact ⟨m + 1 + 1, by omega, by go_num, HN.out, HB1.out.trans ((drewN_below _ _).mono HB1.out.size)⟩
          case measure => simp [intOf]; omega
    · obtain rfl : k = l.length := by omega
      clear hb
      by_cases g1 : (l.length : Int) < 1
      · have HV := Lib.hid (show brB l = false by
          unfold brB; rw [decide_eq_false (show ¬ 1 ≤ l.length by omega)]; simp)
        clear ha
        go_wp2
        go_ret
        exact ⟨ret_bool HV.out.symm, HB.out⟩
      by_cases g2 : (6 : Int) < (l.length : Int)
      · have HV := Lib.hid (show brB l = false by
          unfold brB; rw [decide_eq_false (show ¬ l.length ≤ 6 by omega)]; simp)
        clear ha
        go_wp2
        go_ret
        exact ⟨ret_bool (by rw [HV.out]; first | rfl | exact decide_eq_false (by omega)), HB.out⟩
      · have HV := Lib.hid (show brB l = true by
          unfold brB; rw [ha, decide_eq_true (show 1 ≤ l.length by omega), decide_eq_true (show l.length ≤ 6 by omega)]; rfl)
        clear ha
        go_wp2
        go_ret
        exact ⟨ret_bool (by rw [HV.out]), HB.out⟩

set_option maxRecDepth 100000 in
set_option maxHeartbeats 8000000 in
theorem refbrackets_any (p : Option Addr) (l : List Brk) (n c : Nat) (w : World) (hn : n = l.length) (h : Recs SBk w p l) : Calls Tryz.prog 90 #[.slice p n c] w (BoolG (brB l) w) := by
  subst hn
  have hl := h.len
  by_cases g1 : (l.length : Int) < 1
  · have HV := Lib.hid (show brB l = false by
      unfold brB; rw [decide_eq_false (show ¬ 1 ≤ l.length by omega)]; simp)
    clear h
    go_enter Tryz.func90, Tryz.ntmps90
    go_wp2
    go_ret
    exact ⟨ret_bool HV.out.symm, Below.refl _ _⟩
  by_cases g2 : (6 : Int) < (l.length : Int)
  · have HV := Lib.hid (show brB l = false by
      unfold brB; rw [decide_eq_false (show ¬ l.length ≤ 6 by omega)]; simp)
    clear h
    go_enter Tryz.func90, Tryz.ntmps90
    go_wp2
    go_ret
    exact ⟨ret_bool HV.out.symm, Below.refl _ _⟩
  have H := Lib.hid h
  have EV := Lib.hid (show brAll l l.length = true → brB l = true from fun ha => by
    unfold brB; rw [ha, decide_eq_true (show 1 ≤ l.length by omega), decide_eq_true (show l.length ≤ 6 by omega)]; rfl)
  clear h
  go_enter Tryz.func90, Tryz.ntmps90
  go_wp2
  go_loopw [3, 16] (fun u i wr => ∃ k : Nat, k ≤ l.length ∧ i = .int .i64 k ∧ u = .int .i64 (upB l k) ∧ brAll l k = true ∧ Below w.heap.size w wr) (fun _ i _ => l.length - (intOf i).toNat)
  case atStart => exact ⟨0, Nat.zero_le _, rfl, rfl, rfl, Below.refl _ _⟩
  case round =>
    obtain ⟨wo, rfl⟩ : ∃ wo : World, wo = wr := ⟨_, rfl⟩
    obtain ⟨k, hk, rfl, rfl, ha, hb⟩ := hrel
    have HA := Lib.hid ha
    have HB := Lib.hid hb
    have hk0 : (0 : Int) ≤ (k : Int) := Int.natCast_nonneg _
    by_cases hlt : k < l.length
    · have hk1 : (k : Int) < (l.length : Int) := by omega
      obtain ⟨b, off, x, rfl, hbl, x0, x1, hx⟩ := SBk_at (H.out.below hb) hlt
      obtain ⟨up, rate⟩ := x
      simp only at x0 x1
      obtain ⟨prev, ep⟩ : ∃ pv, upB l k = pv := ⟨_, rfl⟩
      rw [ep]
      obtain ⟨bad, good⟩ := brAt_parts hlt hx.out ep
      have BAD := Lib.hid (fun h => brB_bad hlt (bad h))
      have GOOD := Lib.hid (fun h1 h2 h3 h4 => (show brAll l (k + 1) = true by rw [brAll_succ, HA.out, good h1 h2 h3 h4]; rfl))
      have HN1 := Lib.hid (show upB l (k + 1) = up by rw [upB_succ hlt, hx.out])
      have HB1 := Lib.hid (balloc (Nat.le_refl _) HB.out (.cells #[.int .i64 up, .int .i64 rate] 34))
      clear ha hb hx ep bad good
      by_cases g1 : up ≤ prev
      · have HV := Lib.hid (BAD.out (.inl g1))
        go_wp2
        go_ret
        exact ⟨ret_bool HV.out.symm, HB1.out⟩
      by_cases g2 : 268435456 < up
      · have HV := Lib.hid (BAD.out (.inr (.inl g2)))
        go_wp2
        go_ret
        exact ⟨ret_bool HV.out.symm, HB1.out⟩
      by_cases g3 : rate < 0
      · have HV := Lib.hid (BAD.out (.inr (.inr (.inl g3))))
        go_wp2
        go_ret
        exact ⟨ret_bool HV.out.symm, HB1.out⟩
      by_cases g4 : 1048576 < rate
      · have HV := Lib.hid (BAD.out (.inr (.inr (.inr g4))))
        go_wp2
        go_ret
        exact ⟨ret_bool HV.out.symm, HB1.out⟩
      · have HN := Lib.hid (GOOD.out (by omega) (by omega) (by omega) (by omega))
        go_wp2
        go_roundw
        case rel => exact ⟨k + 1, by omega, by go_num, by rw [HN1.out], HN.out, HB1.out⟩
        case measure => simp [intOf]; omega
    · obtain rfl : k = l.length := by omega
      have HV := Lib.hid (EV.out ha)
      clear hb ha
      go_wp2
      go_ret
      exact ⟨ret_bool HV.out.symm, HB.out⟩

end Go.Proofs.YtflcdkibjakciaaGreatDoor
