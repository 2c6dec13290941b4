/-
  THE WALK over the law CeilingStricter.
-/
import Derived.Test.YtmgdbbmheiligaaCs
import Derived.Test.YtmgdbbmheiligaaDq
namespace Go.Proofs.Ytmgdbbmheiligaa
open Go.RowKit

/-- The degrees of which the first k take more away. -/
def upd (by_ : Int) (D : List (Int × Int)) : Nat → List (Int × Int)
  | 0 => D
  | k + 1 => (upd by_ D k).set k ((D.getD k (0, 0)).1, min 1000 ((D.getD k (0, 0)).2 + by_))

theorem upd_len (b : Int) (D : List (Int × Int)) (k : Nat) : (upd b D k).length = D.length := by
  induction k with
  | zero => rfl
  | succ k ih => unfold upd; rw [List.length_set, ih]

theorem upd_at (b : Int) (D : List (Int × Int)) (k j : Nat) (hj : j < D.length) : (upd b D k).getD j (0, 0) = if j < k then ((D.getD j (0, 0)).1, min 1000 ((D.getD j (0, 0)).2 + b)) else D.getD j (0, 0) := by
  induction k with
  | zero => rw [if_neg (Nat.not_lt_zero j)]; rfl
  | succ k ih =>
    unfold upd
    rw [List.getD_eq_getElem?_getD, List.getElem?_set]
    by_cases e : k = j
    · subst e
      rw [if_pos rfl, if_pos (by rw [upd_len]; exact hj), if_pos (by omega)]
      rfl
    · rw [if_neg e, ← List.getD_eq_getElem?_getD, ih]
      by_cases h : j < k
      · rw [if_pos h, if_pos (by omega)]
      · rw [if_neg h, if_neg (by omega)]

theorem upd_all {b : Int} {D : List (Int × Int)} (hR : Ce.Right D) (b0 : 0 ≤ b) : Ce.Right (upd b D D.length) ∧ (∀ i, i < D.length → Ce.fr (upd b D D.length) i = Ce.fr D i) ∧ ∀ i, i < D.length → Ce.mi D i ≤ Ce.mi (upd b D D.length) i := by
  have hf : ∀ i, i < D.length → Ce.fr (upd b D D.length) i = Ce.fr D i := fun i hi => by
    unfold Ce.fr; rw [upd_at _ _ _ _ hi, if_pos hi]
  have hm : ∀ i, i < D.length → Ce.mi (upd b D D.length) i = min 1000 (Ce.mi D i + b) := fun i hi => by
    unfold Ce.mi; rw [upd_at _ _ _ _ hi, if_pos hi]
  refine ⟨⟨by rw [upd_len]; exact hR.len, fun i hi => ?_⟩, hf, fun i hi => ?_⟩
  · rw [upd_len] at hi
    have h := hR.ok i hi
    rw [Ce.okAt_iff] at h ⊢
    rw [hf i hi, hm i hi]
    refine ⟨h.1, by omega, by omega, ?_⟩
    by_cases hz : i = 0
    · exact .inl hz
    · rw [hf (i - 1) (by omega), hm (i - 1) (by omega)]
      omega
  · have := hR.mi0 hi
    rw [hm i hi]
    omega

set_option maxRecDepth 100000 in
set_option maxHeartbeats 4000000 in
theorem ceilingStricter_walk (a : Option Addr) (len cap : Nat) (z : List Int) (v : Int) (w : World) (w0 : IsRow .i64 w a len cap z) (w1 : (Lit.int .u16 v).wf = true) :
    Calls Try.prog 7 #[.slice a len cap, .int .u16 v] w fun e w' => e = .returned (.bool true) ∧ Below w.heap.size w w' := by
  obtain ⟨v0, v1⟩ := bd_u16 w1
  have HN := Lib.hid (new_any a len cap z w w0)
  clear w0 w1
  generalize (z.take len).take 400 = l at *
  have HD := Lib.hid (fun (W : World) (h : TapeAt W w.heap.size l 0) => degrees_any w.heap.size l 0 W h)
  have HX := Lib.hid (fun (W : World) (q : Nat) (h : TapeAt W w.heap.size l q) => next_any w.heap.size l q 200 W h (by omega))
  obtain ⟨i0, hi, hz0, hz1, hz2⟩ := info_parts info_deg
  have HI := Lib.hid (And.intro hi (And.intro hz0 (And.intro hz1 hz2)))
  clear hi hz0 hz1 hz2
  go_enter Try.func7, Try.ntmps7
  go_wp2_with (first | (go_at_call 16; refine (HN.out).mono ?_; rintro e w1 ⟨rfl, ht, hb1⟩) | (go_at_call 34; refine (HD.out _ ht).mono ?_; rintro e w2 ⟨p, cp, D, q0, rfl, hO, hRt, hl3, ht2, hb2⟩) | (at_builtin; (refine OwnP.appendAll HI.out.1 HI.out.2.1 HI.out.2.2.1 HI.out.2.2.2 Try.underlying39 rfl (.tmp 22) (.tmp 23) rfl w2.heap.size (w.heap.size + 1) _ D p cp (World.ownsRow_lit w2 #[] 0 (Nat.le_refl _) (by unfold maxLen; omega) rfl) (hO.below ((Below.refl _ _).alloc (Nat.le_refl _) _)) rfl rfl (by simp) (by omega) ?_); intro v3 w3 hown3 hb3; have h23 : Below w2.heap.size w2 w3 := ((Below.refl _ _).alloc (Nat.le_refl _) _).trans hb3; obtain ⟨p3, c3, rfl, hM3⟩ := hown3.pairs) | (go_at_call 17; refine (HX.out _ _ (ht2.below h23)).mono ?_; rintro e w4 ⟨rfl, ht4, hb4⟩))
  obtain ⟨b0, b1⟩ := gives_bd l q0 (n := 200) (by omega)
  generalize gives l q0 200 = by_ at *
  have htlt := ht2.lt
  have hbut4 : But w.heap.size w2 w4 := (But.of_below h23).trans hb4
  have BUT4 := Lib.hid hbut4
  have O2 := Lib.hid hO
  have R := Lib.hid hRt
  have BEL := Lib.hid (hb1.trans hb2)
  have hst : OwnP w4 48 w2.heap.size (.slice p3 D.length c3) (upd by_ D 0) := hown3.butB htlt hb4
  have HST := Lib.hid hst
  have hs24 := hbut4.size
  clear hst hO hRt hl3 ht ht2 hb1 hb2 hb3 hb4 hbut4 h23 hM3 hown3 ht4 HN HD HX
  have hl3 := R.out.len
  go_loopw [29] (fun i wr => ∃ k : Nat, k ≤ D.length ∧ i = .int .i64 k ∧ OwnP wr 48 w2.heap.size (.slice p3 D.length c3) (upd by_ D k) ∧ Below w2.heap.size w4 wr) (fun i _ => D.length - (intOf i).toNat)
  case atStart => exact ⟨0, Nat.zero_le _, rfl, HST.out, Below.refl _ _⟩
  case round =>
    clear HST
    obtain ⟨k, hk, rfl, hM, hbw⟩ := hrel
    have HM := Lib.hid hM
    have HB := Lib.hid hbw
    have hszr := hbw.size
    clear hM hbw
    by_cases hlt : k < D.length
    · have hM' : OwnP wr 48 w2.heap.size (.slice p3 (upd by_ D k).length c3) (upd by_ D k) := by rw [upd_len]; exact HM.out
      obtain ⟨g, hp3, hBg, hgl, -, cy, -, fy, -, hset⟩ := hM'.at (k := k) (by rw [upd_len]; exact hlt)
      subst hp3
      have hat : (upd by_ D k).getD k (0, 0) = D.getD k (0, 0) := by rw [upd_at _ _ _ _ hlt, if_neg (Nat.lt_irrefl k)]
      rw [hat] at cy hset
      have hset' := hset (min 1000 ((D.getD k (0, 0)).2 + by_))
      rw [upd_len] at hset'
      have HS := Lib.hid (show OwnP _ 48 w2.heap.size (.slice (some ⟨g, 0, none⟩) D.length c3) (upd by_ D (k + 1)) from hset')
      have hmi := R.out.mi0 hlt
      unfold Ce.mi at hmi
      clear hM' hset hset' hat HM
      generalize (D.getD k (0, 0)).2 = y at *
      have hk0 : (0 : Int) ≤ (k : Int) := Int.natCast_nonneg _
      have hk1 : (k : Int) < (D.length : Int) := by omega
      go_wp2_with fail
      go_roundw
      case rel => exact ⟨k + 1, by omega, by go_num, HS.out, HB.out.setCell hBg _⟩
      case measure => simp [intOf]; omega
    · obtain rfl : k = D.length := by omega
      obtain ⟨hMR, hMf, hMm⟩ := upd_all R.out b0
      have hbutr := BUT4.out.step HB.out
      have hO4 := (O2.out.but hbutr).pairs_at
      have hM4 : OwnP wr 48 w2.heap.size (.slice p3 (upd by_ D D.length).length c3) (upd by_ D D.length) := by rw [upd_len]; exact HM.out
      have hP4 := hM4.pairs_at
      have BEL2 := Lib.hid (BEL.out.trans (hbutr.below (Nat.le_refl _) BEL.out.size))
      have hred := R.out.red_strict hMR (upd_len by_ D D.length) hMf hMm v0 (show v ≤ 68719476736 by omega)
      have R1 := Lib.hid (Reduced_fine R.out v0 (show v ≤ 68719476736 by omega) p cp wr hO4)
      have r2 := fun (W : World) (h : Pairs W p3 (upd by_ D D.length)) => Reduced_fine hMR v0 (show v ≤ 68719476736 by omega) p3 c3 W h
      rw [upd_len] at r2
      have R2 := Lib.hid r2
      have fine : ∀ m : Int, 0 ≤ m → m ≤ 68719476736 → Ce.Fine D m [v, 70] := fun m m0 m1 => ⟨R.out, m0, m1, by simp, fun x hx => by simp only [List.mem_cons, List.not_mem_nil, or_false] at hx; omega, by simp only [Sh.sum]; omega⟩
      have hF5 := fine 5000 (by omega) (by omega)
      have hF4 := fine 4000 (by omega) (by omega)
      have two : ∀ (m : Int), Ce.Fine D m [v, 70] → ∃ x y : Int, Ce.farm D m [v, 70] = [x, y] ∧ (0 ≤ x ∧ x ≤ v) ∧ (0 ≤ y ∧ y ≤ 70) ∧ x + y = min m (Ce.red D (v + 70)) := fun m hF => by
        have h1 := hF.farm_len
        have h2 := hF.farm_sum
        have h3 := hF.farm_bd 0 (by simp)
        have h4 := hF.farm_bd 1 (by simp)
        have e : Ce.farmLeft D m [v, 70] = min m (Ce.red D (v + 70)) := by unfold Ce.farmLeft; simp only [Sh.sum, Int.add_zero]
        rw [e] at h2
        generalize Ce.farm D m [v, 70] = f at *
        match f, h1 with
        | [x, y], _ =>
          simp only [Sh.sum, Int.add_zero, List.getD_cons_zero, List.getD_cons_succ] at h2 h3 h4
          exact ⟨x, y, rfl, h3, h4, h2⟩
      obtain ⟨x5, y5, e5, ⟨x50, x51⟩, ⟨y50, y51⟩, t5⟩ := two 5000 hF5
      obtain ⟨x4, y4, e4, ⟨x40, x41⟩, ⟨y40, y41⟩, t4⟩ := two 4000 hF4
      have i1 : ∀ (W : World), Ints (W.alloc (.cells #[.int .i64 v, .int .i64 70] 3)) (some ⟨W.heap.size, 0, none⟩) [v, 70] := fun W => Ints.lit W _ [v, 70] (by unfold maxLen; simp)
      have f5 := fun (W : World) (hP : Pairs W p D) => farm_fine hF5 p cp (some ⟨W.heap.size, 0, none⟩) 2 _ (hP.below ((Below.refl _ _).alloc (Nat.le_refl _) _)) (i1 W)
      have f4 := fun (W : World) (hP : Pairs W p D) => farm_fine hF4 p cp (some ⟨W.heap.size, 0, none⟩) 2 _ (hP.below ((Below.refl _ _).alloc (Nat.le_refl _) _)) (i1 W)
      rw [e5] at f5
      rw [e4] at f4
      have hle : x4 + y4 ≤ x5 + y5 := by omega
      have F5 := Lib.hid f5
      have F4 := Lib.hid f4
      have P4 := Lib.hid hP4
      have PD := Lib.hid hO4
      clear hO4 hM4 hP4 hbutr r2 fine hF5 hF4 two e5 e4 i1 f5 f4 t5 t4 hMR hMf hMm hk O2 BUT4 BEL HI
      go_wp2_with (first | (go_at_call 38; first | (with_reducible refine Calls.mono R1.out ?_; rintro e w5 ⟨rfl, hb5⟩) | (with_reducible refine Calls.mono (R2.out _ (P4.out.below hb5)) ?_; rintro e w6 ⟨rfl, hb6⟩; have hP6 := (PD.out.below hb5).below hb6)) | (go_at_call 40; first | ((with_reducible refine Calls.mono (F5.out _ hP6) ?_); rintro e w7 ⟨p7, c7, rfl, hI7, hb7⟩; have hP7 := (hP6.below ((Below.refl _ _).alloc (Nat.le_refl _) (.cells #[.int .i64 v, .int .i64 70] 3))).below hb7) | ((with_reducible refine Calls.mono (F4.out _ hP7) ?_); rintro e w8 ⟨p8, c8, rfl, hI8, hb8⟩)))
      have hI78 := (hI7.below ((Below.refl _ _).alloc (Nat.le_refl _) (.cells #[.int .i64 v, .int .i64 70] 3))).below hb8
      obtain ⟨g7, o7, z0, rfl, hg7, k70, hz0⟩ := hI78.get (k := 0) (by simp)
      obtain ⟨g7', o7', z1, e7, -, k71, hz1⟩ := hI78.get (k := 1) (by simp)
      obtain ⟨g8, o8, z2, rfl, hg8, k80, hz2⟩ := hI8.get (k := 0) (by simp)
      obtain ⟨g8', o8', z3, e8, -, k81, hz3⟩ := hI8.get (k := 1) (by simp)
      simp only [Option.some.injEq, Addr.mk.injEq] at e7 e8
      obtain ⟨rfl, rfl, -⟩ := e7
      obtain ⟨rfl, rfl, -⟩ := e8
      obtain rfl : x5 = z0 := hz0.out
      obtain rfl : y5 = z1 := hz1.out
      obtain rfl : x4 = z2 := hz2.out
      obtain rfl : y4 = z3 := hz3.out
      simp only [Nat.add_zero] at k70 k80
      have le := Nat.le_refl w.heap.size
      have BEL3 := Lib.hid (bstep le (balloc le (bstep le (balloc le (bstep le (bstep le BEL2.out hb5) hb6) _) hb7) _) hb8)
      have hdl : decide (Ce.red (upd by_ D D.length) v ≤ Ce.red D v) = true := decide_eq_true hred
      have hdl2 : decide (x4 + y4 ≤ x5 + y5) = true := decide_eq_true hle
      clear hI7 hI8 hI78 hb5 hb6 hb7 hb8 hP6 hP7 hz0 hz1 hz2 hz3
      go_wp2_with fail
      refine wp_tail 21 (by kernel_rfl) (by kernel_rfl) ?_
      simp only [List.take_succ_cons, List.take_zero, List.drop_succ_cons, List.drop_zero]
      repeat still_step
      refine wpStill_nil ?_
      change wpList _ _ _ _ _ (World.drew _)
      go_wp2_with (first | (go_at_call 33; refine (awake32_any _).mono ?_; rintro e w9 ⟨rfl, hb9⟩))
      go_ret
      exact ⟨rfl, bstep le BEL3.out (bdrew hb9)⟩

end Go.Proofs.Ytmgdbbmheiligaa
