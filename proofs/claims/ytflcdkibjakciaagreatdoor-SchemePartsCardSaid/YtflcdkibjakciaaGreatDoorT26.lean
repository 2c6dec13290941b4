/-
  THE WALK over scheme.Check. Printed by gent26.py.
-/
import Derived.Test.YtflcdkibjakciaaGreatDoorM16
namespace Go.Proofs.YtflcdkibjakciaaGreatDoor
open Go.RowKit Te Sc

def ChkG (v : Int × Int) (w : World) (e : Ending) (w' : World) : Prop := e = .returned (.tuple #[.int .i64 v.1, .int .i64 v.2]) ∧ Below w.heap.size w w'

theorem chk_long {L : List Sch} (h : 16 < L.length) : chk17 L = (0, 1) := by unfold chk17; rw [if_pos h]
theorem chk_A {L : List Sch} (h : ¬ 16 < L.length) {k : Nat} (hk : k < L.length) (ha : ∀ j, j < k → errA L j = 0) (h2 : errA L k ≠ 0) : chk17 L = ((k : Int), errA L k) := by
  unfold chk17; rw [if_neg h, fst_some hk ha h2]
theorem chk_B {L : List Sch} (h : ¬ 16 < L.length) (hA : ∀ j, j < L.length → errA L j = 0) {k : Nat} (hk : k < L.length) (ha : ∀ j, j < k → errB L j = 0) (h2 : errB L k ≠ 0) : chk17 L = ((k : Int), 17) := by
  unfold chk17; rw [if_neg h, fst_none hA]; simp only; rw [fst_some hk ha h2]
theorem chk_ok {L : List Sch} (h : ¬ 16 < L.length) (hA : ∀ j, j < L.length → errA L j = 0) (hB : ∀ j, j < L.length → errB L j = 0) : chk17 L = (-1, 0) := by
  unfold chk17; rw [if_neg h, fst_none hA]; simp only; rw [fst_none hB]

theorem errA_one {L : List Sch} {k : Nat} (hk : k < L.length) (h : one17 L[k] ≠ 0) : errA L k = one17 L[k] := by
  unfold errA; rw [List.getElem?_eq_getElem hk]; simp only; rw [if_pos h]
theorem errA_twice {L : List Sch} {k : Nat} (hk : k < L.length) (h : one17 L[k] = 0) : errA L k = if twice L k L[k] = true then 6 else 0 := by
  unfold errA; rw [List.getElem?_eq_getElem hk]; simp only; rw [if_neg (by omega)]
theorem errB_at {L : List Sch} {k : Nat} (hk : k < L.length) : errB L k = if mutual17 L L[k] = true then 0 else 17 := by
  unfold errB; rw [List.getElem?_eq_getElem hk]
theorem one_num {s : Sch} (h : one17 s = 0) : 0 ≤ s.num ∧ s.num ≤ 15 := by
  unfold one17 at h
  split at h
  · cases h
  · omega
theorem errA_num {L : List Sch} {k : Nat} (hk : k < L.length) (h : errA L k = 0) : 0 ≤ L[k].num ∧ L[k].num ≤ 15 := by
  by_cases h1 : one17 L[k] = 0
  · exact one_num h1
  · rw [errA_one hk h1] at h; exact absurd h h1

theorem twice_num {L : List Sch} {m : Nat} {s : Sch} (hm : m < L.length) (h : s.num ≤ L[m].num) : twice L (m + 1) s = true := by
  unfold twice; simp only; rw [List.getElem?_eq_getElem hm]; simp only; rw [decide_eq_true h, Bool.true_or]
theorem twice_any {L : List Sch} {m : Nat} {s : Sch} (hm : m < L.length) (h : ¬ s.num ≤ L[m].num) : twice L (m + 1) s = (L.take (m + 1)).any (nmIs s.nm) := by
  unfold twice; simp only; rw [List.getElem?_eq_getElem hm]; simp only; rw [decide_eq_false h, Bool.false_or]; rfl
theorem twice_zero {L : List Sch} {s : Sch} : twice L 0 s = (L.take 0).any (nmIs s.nm) := by
  unfold twice; simp

theorem wp_tailQ {P : Program} {id : Nat} {Q : Exit → Act → World → Prop} {a : Act} {w : World} {l : List Oper} (n : Nat) (hm : P.follows .mixedOrders = true) (hB : Region.lexTailB .any l.toArray n = true)
    (h : ∀ R : Act → Prop, (∀ a', wpList P l.toArray Q (l.drop n) a' w.drew → R a') → wpStill P l.toArray w.drew R (l.take n) a) : (Code.region id l.toArray true).wp P Q a w := wp_tail n hm hB (h _ fun _ k => k)

theorem wpStill_skip {P : Program} {ops : Array Oper} {w : World} {Q : Act → Prop} {a : Act} {o : Oper} {rest : List Oper} (h0 : Region.wanted o (yielded ops a.tmps) = false) (h : wpStill P ops w Q rest (a.put o.dst undef)) : wpStill P ops w Q (o :: rest) a := by
  rw [wpStill, if_neg (by rw [h0]; simp)]
  exact h

set_option maxRecDepth 100000 in
set_option maxHeartbeats 3000000 in
theorem check17_any {Q : Nat → Prop} (d : Nat) (p : Option Addr) (L : List Sch) (cap : Nat) (w : World) (h : SsAt Q w d p L) (hz : ∀ s ∈ L, s.nm.size ≤ 9223372036854775807) (hcap : L.length ≤ cap) :
    Calls Tryz.prog 18 #[.slice p L.length cap] w (ChkG (chk17 L) w) := by
  have hlen := h.len
  have H := Lib.hid h
  have HZ := Lib.hid hz
  clear h hz
  obtain ⟨cv, ecv⟩ : ∃ v, chk17 L = v := ⟨_, rfl⟩
  rw [ecv]
  have ECV := Lib.hid ecv
  clear ecv
  by_cases h16 : 16 < L.length
  · have HV := Lib.hid (show cv = (0, 1) from ECV.out ▸ chk_long h16)
    go_enter Tryz.func18, Tryz.ntmps18
    go_wp2
    go_ret2
    exact ⟨by rw [HV.out]; rfl, Below.refl _ _⟩
  go_enter Tryz.func18, Tryz.ntmps18
  go_wp2
  go_loopw [14] (fun i wr => ∃ k : Nat, k ≤ L.length ∧ i = .int .i64 k ∧ (∀ j, j < k → errA L j = 0) ∧ Below w.heap.size w wr) (fun i _ => L.length - (intOf i).toNat)
  case atStart => exact ⟨0, Nat.zero_le _, rfl, fun j hj => absurd hj (Nat.not_lt_zero j), Below.refl _ _⟩
  case round =>
    obtain ⟨wo, rfl⟩ : ∃ wo : World, wo = wr := ⟨_, rfl⟩
    obtain ⟨k, hk, rfl, ha, hb⟩ := hrel
    have HAL := Lib.hid ha
    have HB := Lib.hid hb
    have hk0 : (0 : Int) ≤ (k : Int) := Int.natCast_nonneg _
    by_cases hlt : k < L.length
    · have hk1 : (k : Int) < (L.length : Int) := by omega
      obtain ⟨b, off, r, rfl, hbl, hC, hv⟩ := (H.out.below hb).at hlt
      have CV := Lib.hid (valid_any d r L[k] _ (hv.below (balloc (Nat.le_refl _) (Below.refl _ _) (.cells (sCells r).toArray 32))) (by rw [hv.nm]; exact HZ.out _ (List.getElem_mem hlt)))
      have HQ := Lib.hid hv
      have RN := Lib.hid hv.nm
      have RU := Lib.hid hv.num
      obtain ⟨c0, c1, c2, c3, c4, c5, c6, c7, c8, c9⟩ := hC
      obtain ⟨num, nm, ⟨o, tn, tm, tp, tl, tc⟩, bp, bn, bc, least, ex, needs⟩ := r
      simp only at c0 c1 c2 c3 c4 c5 c6 c7 c8 c9 RN RU
      simp only [sCells] at CV
      have HBA := Lib.hid (balloc (Nat.le_refl _) HB.out (.cells #[.int .i64 num, .string nm, .int .i64 o, .int .i64 tn, .int .i64 tm, .slice tp tl tc, .slice bp bn bc, .int .i64 least, .int .i64 ex, .bool needs] 32))
      obtain ⟨v, ev⟩ : ∃ v, one17 L[k] = v := ⟨_, rfl⟩
      have EV := Lib.hid ev
      rw [ev] at CV
      clear ha hb hv ev
      by_cases hv0 : v = 0
      · subst hv0
        have E6 := Lib.hid (fun (h : twice L k L[k] = true) => (show cv = ((k : Int), 6) from by rw [← ECV.out, chk_A h16 hlt HAL.out (by rw [errA_twice hlt EV.out, if_pos h]; decide), errA_twice hlt EV.out, if_pos h]))
        have E0 := Lib.hid (fun (h : twice L k L[k] = false) => (show errA L k = 0 from by rw [errA_twice hlt EV.out, if_neg (by rw [h]; decide)]))
        have CN := Lib.hid (fun (W : World) (hW : Below w.heap.size w W) (hc1 : W.cell? ⟨wo.heap.size, 1, none⟩ = some (.string nm)) (hl1 : wo.heap.size < W.heap.size) => (show Calls Tryz.prog 45 #[.slice (some ⟨b, off, none⟩) k cap, .func (.func 46) #[] #[.pointer (some ⟨wo.heap.size, 0, none⟩)]] W (BoolG ((L.take k).any (nmIs nm)) W) from by
          have := containsname_any d (some ⟨b, off, none⟩) (L.take k) cap wo.heap.size nm W ((H.out.below hW).take k) hc1 hl1
          rw [List.length_take, Nat.min_eq_left hk] at this
          exact this))
        rcases Nat.eq_zero_or_pos k with hk00 | hkp
        · subst hk00
          have TW := Lib.hid (show twice L 0 L[0] = (L.take 0).any (nmIs nm) from by rw [RN.out]; exact twice_zero)
          have TF : (L.take 0).any (nmIs nm) = false := by simp
          rw [TF] at CN TW
          clear TF
          have hcz : (0 : Int) ≤ (cap : Int) := Int.natCast_nonneg _
          · have HV := Lib.hid (E0.out TW.out)
            rw [Nat.zero_mul, Nat.add_zero] at c0 c1 c2 c3 c4 c5 c6 c7 c8 c9
            rw [show ((0 : Nat) : Int) = 0 from rfl]
            go_wp2_with (first | (go_at_call 35; (with_reducible refine Calls.mono CV.out ?_); rintro e w1 ⟨rfl, hb1⟩; have HB1 := Lib.hid (bstep (Nat.le_refl _) HBA.out hb1); have v0 := (hb1.cell (p := ⟨wo.heap.size, 0, none⟩) (by simp)).trans (World.cell?_alloc_new _ _ _ _); have v1 := (hb1.cell (p := ⟨wo.heap.size, 1, none⟩) (by simp)).trans (World.cell?_alloc_new _ _ _ _); have v2 := (hb1.cell (p := ⟨wo.heap.size, 2, none⟩) (by simp)).trans (World.cell?_alloc_new _ _ _ _); have v3 := (hb1.cell (p := ⟨wo.heap.size, 3, none⟩) (by simp)).trans (World.cell?_alloc_new _ _ _ _); have v4 := (hb1.cell (p := ⟨wo.heap.size, 4, none⟩) (by simp)).trans (World.cell?_alloc_new _ _ _ _); have v5 := (hb1.cell (p := ⟨wo.heap.size, 5, none⟩) (by simp)).trans (World.cell?_alloc_new _ _ _ _); have v6 := (hb1.cell (p := ⟨wo.heap.size, 6, none⟩) (by simp)).trans (World.cell?_alloc_new _ _ _ _); have v7 := (hb1.cell (p := ⟨wo.heap.size, 7, none⟩) (by simp)).trans (World.cell?_alloc_new _ _ _ _); have v8 := (hb1.cell (p := ⟨wo.heap.size, 8, none⟩) (by simp)).trans (World.cell?_alloc_new _ _ _ _); have v9 := (hb1.cell (p := ⟨wo.heap.size, 9, none⟩) (by simp)).trans (World.cell?_alloc_new _ _ _ _); have HD1 := Lib.hid (show Below w.heap.size w w1.drew from HB1.out.drew); have HS1 := Lib.hid (show wo.heap.size < w1.heap.size from Nat.lt_of_lt_of_le (by simp) hb1.size); clear hb1))
            refine wp_tailQ 18 (by kernel_rfl) (by kernel_rfl) (fun R hR => ?_)
            simp only [List.take_succ_cons, List.take_zero, List.drop_succ_cons, List.drop_zero] at hR ⊢
            still_step
            still_step
            still_step
            iterate 9 ((with_reducible refine wpStill_skip (by kernel_rfl) ?_); simp only [Act.put, List.setIfInBounds_toArray, List.set_cons_zero, List.set_cons_succ])
            still_step
            still_step
            still_step
            still_step
            still_step
            still_step
            with_reducible refine wpStill_nil ?_
            with_reducible refine hR _ ?_
            clear hR R
            have CW := Lib.hid (CN.out w1.drew HD1.out v1 HS1.out)
            go_wp2_with (first | (go_at_call 45; (with_reducible refine Calls.mono CW.out ?_); rintro e w2 ⟨rfl, hb2⟩; have HB2 := Lib.hid (HD1.out.trans (hb2.mono HD1.out.size)); clear hb2))
            go_roundw
            case rel => exact ⟨1, by omega, by go_num, fun j hj => by
              by_cases e : j = 0
              · subst e; exact HV.out
              · omega, HB2.out⟩
            case measure => simp [intOf]; omega
        · obtain ⟨m, rfl⟩ : ∃ m, k = m + 1 := ⟨k - 1, by omega⟩
          obtain ⟨b', off', y, ey, -, hCy, hy⟩ := (H.out.below HB.out).at (show m < L.length by omega)
          cases ey
          have Y0 := Lib.hid hCy.c0
          have YN := Lib.hid hy.num
          obtain ⟨pn, epn⟩ : ∃ x, y.num = x := ⟨_, rfl⟩
          rw [epn] at Y0 YN
          clear hCy hy epn
          obtain ⟨i, ei⟩ : ∃ i : Int, ((m + 1 : Nat) : Int) = i := ⟨_, rfl⟩
          have EI := Lib.hid ei
          by_cases hle : num ≤ pn
          · have HV := Lib.hid (E6.out (twice_num (by omega) (by rw [← RU.out, ← YN.out]; exact hle)))
            have d1 : decide (num ≤ pn) = true := decide_eq_true hle
            clear hle ei
            go_wp2_with (first | (go_at_call 35; (with_reducible refine Calls.mono CV.out ?_); rintro e w1 ⟨rfl, hb1⟩; have HB1 := Lib.hid (bstep (Nat.le_refl _) HBA.out hb1); have v0 := (hb1.cell (p := ⟨wo.heap.size, 0, none⟩) (by simp)).trans (World.cell?_alloc_new _ _ _ _); have v1 := (hb1.cell (p := ⟨wo.heap.size, 1, none⟩) (by simp)).trans (World.cell?_alloc_new _ _ _ _); have v2 := (hb1.cell (p := ⟨wo.heap.size, 2, none⟩) (by simp)).trans (World.cell?_alloc_new _ _ _ _); have v3 := (hb1.cell (p := ⟨wo.heap.size, 3, none⟩) (by simp)).trans (World.cell?_alloc_new _ _ _ _); have v4 := (hb1.cell (p := ⟨wo.heap.size, 4, none⟩) (by simp)).trans (World.cell?_alloc_new _ _ _ _); have v5 := (hb1.cell (p := ⟨wo.heap.size, 5, none⟩) (by simp)).trans (World.cell?_alloc_new _ _ _ _); have v6 := (hb1.cell (p := ⟨wo.heap.size, 6, none⟩) (by simp)).trans (World.cell?_alloc_new _ _ _ _); have v7 := (hb1.cell (p := ⟨wo.heap.size, 7, none⟩) (by simp)).trans (World.cell?_alloc_new _ _ _ _); have v8 := (hb1.cell (p := ⟨wo.heap.size, 8, none⟩) (by simp)).trans (World.cell?_alloc_new _ _ _ _); have v9 := (hb1.cell (p := ⟨wo.heap.size, 9, none⟩) (by simp)).trans (World.cell?_alloc_new _ _ _ _); have HD1 := Lib.hid (show Below w.heap.size w w1.drew from HB1.out.drew); have HS1 := Lib.hid (show wo.heap.size < w1.heap.size from Nat.lt_of_lt_of_le (by simp) hb1.size); have hy0 := (hb1.cell (p := ⟨b, off + m * 10, none⟩) (show b < (wo.alloc _).heap.size by simp; omega)).trans ((World.cell?_alloc_past _ _ _ hbl).trans Y0.out); clear hb1))
            go_quiet (fail)
            go_wp2
            go_ret2
            exact ⟨by rw [HV.out]; rfl, HB1.out.trans ((drewN_below _ _).mono HB1.out.size)⟩
          · have d1 : decide (num ≤ pn) = false := decide_eq_false hle
            have TW := Lib.hid (show twice L (m + 1) L[m + 1] = (L.take (m + 1)).any (nmIs nm) from by rw [RN.out]; exact twice_any (by omega) (by rw [← RU.out, ← YN.out]; exact hle))
            obtain ⟨z, ez⟩ : ∃ z, (L.take (m + 1)).any (nmIs nm) = z := ⟨_, rfl⟩
            rw [ez] at CN TW
            obtain ⟨j, ej⟩ : ∃ j : Int, (m : Int) = j := ⟨_, rfl⟩
            have hi0 : 0 < i := by omega
            have hi1 : i < (L.length : Int) := by omega
            have hic : i ≤ (cap : Int) := by omega
            have hit : i.toNat = m + 1 := by omega
            have hij : i - 1 = j := by omega
            have hj0 : 0 ≤ j := by omega
            have hj1 : j < (L.length : Int) := by omega
            have hjt : j.toNat = m := by omega
            have hw : IntKind.i64.wrap (i - 1) = j := by rw [hij, IntKind.wrap_i64]; omega
            rw [ei]
            rw [ei] at hk0 hk1
            have hwj : IntKind.i64.wrap j = j := by rw [IntKind.wrap_i64]; omega
            clear hle ei ez ej hij
            cases z
            · have HV := Lib.hid (E0.out TW.out)
              go_wp2_with (first | (go_at_call 35; (with_reducible refine Calls.mono CV.out ?_); rintro e w1 ⟨rfl, hb1⟩; have HB1 := Lib.hid (bstep (Nat.le_refl _) HBA.out hb1); have v0 := (hb1.cell (p := ⟨wo.heap.size, 0, none⟩) (by simp)).trans (World.cell?_alloc_new _ _ _ _); have v1 := (hb1.cell (p := ⟨wo.heap.size, 1, none⟩) (by simp)).trans (World.cell?_alloc_new _ _ _ _); have v2 := (hb1.cell (p := ⟨wo.heap.size, 2, none⟩) (by simp)).trans (World.cell?_alloc_new _ _ _ _); have v3 := (hb1.cell (p := ⟨wo.heap.size, 3, none⟩) (by simp)).trans (World.cell?_alloc_new _ _ _ _); have v4 := (hb1.cell (p := ⟨wo.heap.size, 4, none⟩) (by simp)).trans (World.cell?_alloc_new _ _ _ _); have v5 := (hb1.cell (p := ⟨wo.heap.size, 5, none⟩) (by simp)).trans (World.cell?_alloc_new _ _ _ _); have v6 := (hb1.cell (p := ⟨wo.heap.size, 6, none⟩) (by simp)).trans (World.cell?_alloc_new _ _ _ _); have v7 := (hb1.cell (p := ⟨wo.heap.size, 7, none⟩) (by simp)).trans (World.cell?_alloc_new _ _ _ _); have v8 := (hb1.cell (p := ⟨wo.heap.size, 8, none⟩) (by simp)).trans (World.cell?_alloc_new _ _ _ _); have v9 := (hb1.cell (p := ⟨wo.heap.size, 9, none⟩) (by simp)).trans (World.cell?_alloc_new _ _ _ _); have HD1 := Lib.hid (show Below w.heap.size w w1.drew from HB1.out.drew); have HS1 := Lib.hid (show wo.heap.size < w1.heap.size from Nat.lt_of_lt_of_le (by simp) hb1.size); have hy0 := (hb1.cell (p := ⟨b, off + m * 10, none⟩) (show b < (wo.alloc _).heap.size by simp; omega)).trans ((World.cell?_alloc_past _ _ _ hbl).trans Y0.out); clear hb1))
              refine wp_tailQ 18 (by kernel_rfl) (by kernel_rfl) (fun R hR => ?_)
              simp only [List.take_succ_cons, List.take_zero, List.drop_succ_cons, List.drop_zero] at hR ⊢
              iterate 18 still_step
              with_reducible refine wpStill_nil ?_
              with_reducible refine hR _ ?_
              clear hR R
              have CW := Lib.hid (CN.out w1.drew HD1.out v1 HS1.out)
              go_wp2_with (first | (go_at_call 45; (with_reducible refine Calls.mono CW.out ?_); rintro e w2 ⟨rfl, hb2⟩; have HB2 := Lib.hid (HD1.out.trans (hb2.mono HD1.out.size)); clear hb2))
              go_roundw
              case rel => exact ⟨m + 1 + 1, by omega, by rw [← EI.out]; go_num, fun j hj => by
                by_cases e : j = m + 1
                · subst e; exact HV.out
                · exact HAL.out j (by omega), HB2.out⟩
              case measure => rw [← EI.out]; simp [intOf]; omega
            · have HV := Lib.hid (E6.out TW.out)
              go_wp2_with (first | (go_at_call 35; (with_reducible refine Calls.mono CV.out ?_); rintro e w1 ⟨rfl, hb1⟩; have HB1 := Lib.hid (bstep (Nat.le_refl _) HBA.out hb1); have v0 := (hb1.cell (p := ⟨wo.heap.size, 0, none⟩) (by simp)).trans (World.cell?_alloc_new _ _ _ _); have v1 := (hb1.cell (p := ⟨wo.heap.size, 1, none⟩) (by simp)).trans (World.cell?_alloc_new _ _ _ _); have v2 := (hb1.cell (p := ⟨wo.heap.size, 2, none⟩) (by simp)).trans (World.cell?_alloc_new _ _ _ _); have v3 := (hb1.cell (p := ⟨wo.heap.size, 3, none⟩) (by simp)).trans (World.cell?_alloc_new _ _ _ _); have v4 := (hb1.cell (p := ⟨wo.heap.size, 4, none⟩) (by simp)).trans (World.cell?_alloc_new _ _ _ _); have v5 := (hb1.cell (p := ⟨wo.heap.size, 5, none⟩) (by simp)).trans (World.cell?_alloc_new _ _ _ _); have v6 := (hb1.cell (p := ⟨wo.heap.size, 6, none⟩) (by simp)).trans (World.cell?_alloc_new _ _ _ _); have v7 := (hb1.cell (p := ⟨wo.heap.size, 7, none⟩) (by simp)).trans (World.cell?_alloc_new _ _ _ _); have v8 := (hb1.cell (p := ⟨wo.heap.size, 8, none⟩) (by simp)).trans (World.cell?_alloc_new _ _ _ _); have v9 := (hb1.cell (p := ⟨wo.heap.size, 9, none⟩) (by simp)).trans (World.cell?_alloc_new _ _ _ _); have HD1 := Lib.hid (show Below w.heap.size w w1.drew from HB1.out.drew); have HS1 := Lib.hid (show wo.heap.size < w1.heap.size from Nat.lt_of_lt_of_le (by simp) hb1.size); have hy0 := (hb1.cell (p := ⟨b, off + m * 10, none⟩) (show b < (wo.alloc _).heap.size by simp; omega)).trans ((World.cell?_alloc_past _ _ _ hbl).trans Y0.out); clear hb1))
              refine wp_tailQ 18 (by kernel_rfl) (by kernel_rfl) (fun R hR => ?_)
              simp only [List.take_succ_cons, List.take_zero, List.drop_succ_cons, List.drop_zero] at hR ⊢
              iterate 18 still_step
              with_reducible refine wpStill_nil ?_
              with_reducible refine hR _ ?_
              clear hR R
              have CW := Lib.hid (CN.out w1.drew HD1.out v1 HS1.out)
              go_wp2_with (first | (go_at_call 45; (with_reducible refine Calls.mono CW.out ?_); rintro e w2 ⟨rfl, hb2⟩; have HB2 := Lib.hid (HD1.out.trans (hb2.mono HD1.out.size)); clear hb2))
              go_ret2
              exact ⟨by rw [HV.out, EI.out]; rfl, HB2.out⟩
      · have HV := Lib.hid (show cv = ((k : Int), v) from by rw [← ECV.out, chk_A h16 hlt HAL.out (by rw [errA_one hlt (by rw [EV.out]; exact hv0), EV.out]; exact hv0), errA_one hlt (by rw [EV.out]; exact hv0), EV.out])
        go_wp2_with (first | (go_at_call 35; (with_reducible refine Calls.mono CV.out ?_); rintro e w1 ⟨rfl, hb1⟩; have HB1 := Lib.hid (bstep (Nat.le_refl _) HBA.out hb1); have v0 := (hb1.cell (p := ⟨wo.heap.size, 0, none⟩) (by simp)).trans (World.cell?_alloc_new _ _ _ _); have v1 := (hb1.cell (p := ⟨wo.heap.size, 1, none⟩) (by simp)).trans (World.cell?_alloc_new _ _ _ _); have v2 := (hb1.cell (p := ⟨wo.heap.size, 2, none⟩) (by simp)).trans (World.cell?_alloc_new _ _ _ _); have v3 := (hb1.cell (p := ⟨wo.heap.size, 3, none⟩) (by simp)).trans (World.cell?_alloc_new _ _ _ _); have v4 := (hb1.cell (p := ⟨wo.heap.size, 4, none⟩) (by simp)).trans (World.cell?_alloc_new _ _ _ _); have v5 := (hb1.cell (p := ⟨wo.heap.size, 5, none⟩) (by simp)).trans (World.cell?_alloc_new _ _ _ _); have v6 := (hb1.cell (p := ⟨wo.heap.size, 6, none⟩) (by simp)).trans (World.cell?_alloc_new _ _ _ _); have v7 := (hb1.cell (p := ⟨wo.heap.size, 7, none⟩) (by simp)).trans (World.cell?_alloc_new _ _ _ _); have v8 := (hb1.cell (p := ⟨wo.heap.size, 8, none⟩) (by simp)).trans (World.cell?_alloc_new _ _ _ _); have v9 := (hb1.cell (p := ⟨wo.heap.size, 9, none⟩) (by simp)).trans (World.cell?_alloc_new _ _ _ _); clear hb1))
        go_ret2
        exact ⟨by rw [HV.out]; rfl, HB1.out⟩
    · obtain rfl : k = L.length := by omega
      clear ha hb
      have HBO := HB
      go_wp2
      go_loopw [49] (fun i wr => ∃ k : Nat, k ≤ L.length ∧ i = .int .i64 k ∧ (∀ j, j < k → errB L j = 0) ∧ Below w.heap.size w wr) (fun i _ => L.length - (intOf i).toNat)
      case atStart => exact ⟨0, Nat.zero_le _, rfl, fun j hj => absurd hj (Nat.not_lt_zero j), HBO.out⟩
      case round =>
        obtain ⟨wp, rfl⟩ : ∃ wp : World, wp = wr := ⟨_, rfl⟩
        obtain ⟨k, hk, rfl, ha, hb⟩ := hrel
        have HBL := Lib.hid ha
        have HC := Lib.hid hb
        have hk0' : (0 : Int) ≤ (k : Int) := Int.natCast_nonneg _
        by_cases hlt : k < L.length
        · have hk1 : (k : Int) < (L.length : Int) := by omega
          obtain ⟨b, off, r, rfl, hbl, hCc, hv⟩ := (H.out.below hb).at hlt
          have HN := errA_num hlt (HAL.out k hlt)
          have CV := Lib.hid (mutual_any d (some ⟨b, off, none⟩) L cap r L[k] _ (H.out.below (balloc (Nat.le_refl _) hb (.cells (sCells r).toArray 32))) hv.num hv.ex (by rw [hv.num]; exact HN.1) (by rw [hv.num]; exact HN.2))
          obtain ⟨c0, c1, c2, c3, c4, c5, c6, c7, c8, c9⟩ := hCc
          obtain ⟨num, nm, ⟨o, tn, tm, tp, tl, tc⟩, bp, bn, bc, least, ex, needs⟩ := r
          simp only at c0 c1 c2 c3 c4 c5 c6 c7 c8 c9
          simp only [sCells] at CV
          have HBA := Lib.hid (balloc (Nat.le_refl _) HC.out (.cells #[.int .i64 num, .string nm, .int .i64 o, .int .i64 tn, .int .i64 tm, .slice tp tl tc, .slice bp bn bc, .int .i64 least, .int .i64 ex, .bool needs] 32))
          have ER := Lib.hid (errB_at hlt)
          obtain ⟨mb, em⟩ : ∃ v, mutual17 L L[k] = v := ⟨_, rfl⟩
          rw [em] at CV ER
          clear ha hb hv em HN
          cases mb
          · have HV := Lib.hid (show cv = ((k : Int), 17) from by rw [← ECV.out, chk_B h16 HAL.out hlt HBL.out (by rw [ER.out]; decide)])
            go_wp2_with (first | (go_at_call 47; (with_reducible refine Calls.mono CV.out ?_); rintro e w1 ⟨rfl, hb1⟩; have HB1 := Lib.hid (bstep (Nat.le_refl _) HBA.out hb1); clear hb1))
            go_ret2
            exact ⟨by rw [HV.out]; rfl, HB1.out⟩
          · go_wp2_with (first | (go_at_call 47; (with_reducible refine Calls.mono CV.out ?_); rintro e w1 ⟨rfl, hb1⟩; have HB1 := Lib.hid (bstep (Nat.le_refl _) HBA.out hb1); clear hb1))
            go_roundw
            case rel => exact ⟨k + 1, by omega, by go_num, fun j hj => by
              by_cases e : j = k
              · subst e; rw [ER.out]; rfl
              · exact HBL.out j (by omega), HB1.out⟩
            case measure => simp [intOf]; omega
        · obtain rfl : k = L.length := by omega
          have HV := Lib.hid (show cv = (-1, 0) from ECV.out ▸ chk_ok h16 HAL.out HBL.out)
          clear ha hb
          go_wp2
          go_ret2
          exact ⟨by rw [HV.out]; rfl, HC.out⟩

end Go.Proofs.YtflcdkibjakciaaGreatDoor
