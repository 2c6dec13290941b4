/-
  THE WALK over ref17.Check. Printed by gent27.py.
-/
import Derived.Test.YtflcdkibjakciaaGreatDoorT26
import Derived.Test.YtflcdkibjakciaaGreatDoorT23
namespace Go.Proofs.YtflcdkibjakciaaGreatDoor
open Go.RowKit Te Sc

/-- Scheme j ahead of scheme i has its name, or is the one ahead with a number that is not less. -/
def tw (L : List Sch) (i : Nat) (s : Sch) (j : Nat) : Bool := match L[j]? with | some x => nmIs s.nm x || (decide (j + 1 = i) && decide (s.num ≤ x.num)) | none => false

theorem tw_at {L : List Sch} {i j : Nat} {s : Sch} (hj : j < L.length) : tw L i s j = (nmIs s.nm L[j] || (decide (j + 1 = i) && decide (s.num ≤ L[j].num))) := by
  unfold tw; rw [List.getElem?_eq_getElem hj]

theorem twice_tw {L : List Sch} {i : Nat} {s : Sch} (hi : i ≤ L.length) : twice L i s = true ↔ ∃ j, j < i ∧ tw L i s j = true := by
  have hany : (L.take i).any (fun x => x.nm.data.toList == s.nm.data.toList) = true ↔ ∃ j, ∃ h : j < L.length, j < i ∧ nmIs s.nm L[j] = true := by
    rw [List.any_eq_true]
    constructor
    · rintro ⟨x, hx, hp⟩
      obtain ⟨j, hj, rfl⟩ := List.mem_iff_getElem.1 hx
      rw [List.length_take] at hj
      refine ⟨j, by omega, by omega, ?_⟩
      rw [List.getElem_take] at hp
      exact hp
    · rintro ⟨j, hj, hji, hp⟩
      exact ⟨L[j], List.mem_iff_getElem.2 ⟨j, by rw [List.length_take]; omega, List.getElem_take⟩, hp⟩
  unfold twice
  rw [Bool.or_eq_true, hany]
  constructor
  · rintro (h | ⟨j, hj, hji, hp⟩)
    · cases i with
      | zero => cases h
      | succ k =>
        simp only at h
        rw [List.getElem?_eq_getElem (show k < L.length by omega)] at h
        simp only at h
        exact ⟨k, by omega, by rw [tw_at (by omega), h]; simp⟩
    · exact ⟨j, hji, by rw [tw_at hj, hp, Bool.true_or]⟩
  · rintro ⟨j, hj, h⟩
    rw [tw_at (show j < L.length by omega), Bool.or_eq_true] at h
    rcases h with h | h
    · exact .inr ⟨j, by omega, hj, h⟩
    · rw [Bool.and_eq_true, decide_eq_true_eq] at h
      obtain ⟨h1, h2⟩ := h
      subst h1
      left
      simp only
      rw [List.getElem?_eq_getElem (show j < L.length by omega)]
      exact h2

theorem twice_yes {L : List Sch} {i j : Nat} {s : Sch} (hi : i ≤ L.length) (hj : j < i) (h : tw L i s j = true) : twice L i s = true := (twice_tw hi).2 ⟨j, hj, h⟩
theorem twice_no {L : List Sch} {i : Nat} {s : Sch} (hi : i ≤ L.length) (h : ∀ j, j < i → tw L i s j = false) : twice L i s = false := by
  rw [Bool.eq_false_iff]
  intro h2
  obtain ⟨j, hj, h3⟩ := (twice_tw hi).1 h2
  rw [h j hj] at h3
  cases h3

set_option maxRecDepth 100000 in
set_option maxHeartbeats 4000000 in
theorem refcheck17_any {Q : Nat → Prop} (d : Nat) (p : Option Addr) (L : List Sch) (cap : Nat) (w : World) (h : SsAt Q w d p L) (hz : ∀ s ∈ L, s.nm.size ≤ 9223372036854775807) (hcap : L.length ≤ cap) (hct : ∀ s ∈ L, count s.cond ≤ 1099511627776) :
    Calls Tryz.prog 19 #[.slice p L.length cap] w (ChkG (chk17 L) w) := by
  have hlen := h.len
  have H := Lib.hid h
  have HZ := Lib.hid hz
  have HCT := Lib.hid hct
  clear h hz hct
  obtain ⟨cv, ecv⟩ : ∃ v, chk17 L = v := ⟨_, rfl⟩
  rw [ecv]
  have ECV := Lib.hid ecv
  clear ecv
  by_cases h16 : 16 < L.length
  · have HV := Lib.hid (show cv = (0, 1) from ECV.out ▸ chk_long h16)
    go_enter Tryz.func19, Tryz.ntmps19
    go_wp2
    go_ret2
    exact ⟨by rw [HV.out]; rfl, Below.refl _ _⟩
  go_enter Tryz.func19, Tryz.ntmps19
  go_wp2
  go_loopw [18] (fun i wr => ∃ k : Nat, k ≤ L.length ∧ i = .int .i64 k ∧ (∀ j, j < k → errA L j = 0) ∧ Below w.heap.size w wr) (fun i _ => L.length - (intOf i).toNat)
  case atStart => exact ⟨0, Nat.zero_le _, rfl, fun j hj => absurd hj (Nat.not_lt_zero j), Below.refl _ _⟩
  case round =>
    obtain ⟨wo, rfl⟩ : ∃ wo : World, wo = wr := ⟨_, rfl⟩
    obtain ⟨k, hk, rfl, ha, hb⟩ := hrel
    have HAL := Lib.hid ha
    have HB := Lib.hid hb
    have hk0 : (0 : Int) ≤ (k : Int) := Int.natCast_nonneg _
    by_cases hlt : k < L.length
    · have hk1 : (k : Int) < (L.length : Int) := by omega
      obtain ⟨b, off, r, rfl, hbl, hC, hv⟩ := (H.out.below hb).at hlt
      have CV := Lib.hid (refone_any d r L[k] _ (hv.below (balloc (Nat.le_refl _) (Below.refl _ _) (.cells (sCells r).toArray 32))) (by rw [hv.nm]; exact HZ.out _ (List.getElem_mem hlt)) (HCT.out _ (List.getElem_mem hlt)))
      have RN := Lib.hid hv.nm
      have RU := Lib.hid hv.num
      obtain ⟨c0, c1, c2, c3, c4, c5, c6, c7, c8, c9⟩ := hC
      obtain ⟨num, nm, ⟨o, tn, tm, tp, tl, tc⟩, bp, bn, bc, least, ex, needs⟩ := r
      simp only at c0 c1 c2 c3 c4 c5 c6 c7 c8 c9 RN RU
      simp only [sCells] at CV
      have HBA := Lib.hid (balloc (Nat.le_refl _) HB.out (.cells #[.int .i64 num, .string nm, .int .i64 o, .int .i64 tn, .int .i64 tm, .slice tp tl tc, .slice bp bn bc, .int .i64 least, .int .i64 ex, .bool needs] 32))
      obtain ⟨v, ev⟩ : ∃ v, one17 L[k] = v := ⟨_, rfl⟩
      have EV := Lib.hid ev
      rw [ev] at CV
      clear ha hb hv ev
      by_cases hv0 : v = 0
      · subst hv0
        have E6 := Lib.hid (fun (h : twice L k L[k] = true) => (show cv = ((k : Int), 6) from by rw [← ECV.out, chk_A h16 hlt HAL.out (by rw [errA_twice hlt EV.out, if_pos h]; decide), errA_twice hlt EV.out, if_pos h]))
        have E0 := Lib.hid (fun (h : twice L k L[k] = false) => (show errA L k = 0 from by rw [errA_twice hlt EV.out, if_neg (by rw [h]; decide)]))
        have hkc : (k : Int) ≤ (cap : Int) := by omega
        go_wp2_with (first | (go_at_call 48; (with_reducible refine Calls.mono CV.out ?_); rintro e w1 ⟨rfl, hb1⟩; have HB1 := Lib.hid (bstep (Nat.le_refl _) HBA.out hb1); have HZ1 := Lib.hid (show wo.heap.size < w1.heap.size from Nat.lt_of_lt_of_le (by simp) hb1.size); have V0 := Lib.hid ((hb1.cell (p := ⟨wo.heap.size, 0, none⟩) (by simp)).trans (World.cell?_alloc_new _ _ _ _)); have V1 := Lib.hid ((hb1.cell (p := ⟨wo.heap.size, 1, none⟩) (by simp)).trans (World.cell?_alloc_new _ _ _ _)); clear hb1))
        have HS1 := Lib.hid (show wo.heap.size < w1.heap.size from HZ1.out)
        go_loopw [33] (fun i wr => ∃ j : Nat, j ≤ k ∧ i = .int .i64 j ∧ (∀ m, m < j → tw L k L[k] m = false) ∧ Below w1.heap.size w1 wr) (fun i _ => k - (intOf i).toNat)
        case atStart => exact ⟨0, Nat.zero_le _, rfl, fun j hj => absurd hj (Nat.not_lt_zero j), Below.refl _ _⟩
        case round =>
          obtain ⟨wi, rfl⟩ : ∃ wi : World, wi = wr := ⟨_, rfl⟩
          obtain ⟨j, hj, rfl, ht, hbi⟩ := hrel
          have HT := Lib.hid ht
          have HBI := Lib.hid hbi
          have hx0 := (hbi.cell (p := ⟨wo.heap.size, 0, none⟩) HS1.out).trans V0.out
          have hx1 := (hbi.cell (p := ⟨wo.heap.size, 1, none⟩) HS1.out).trans V1.out
          have HIS := Lib.hid (Nat.lt_of_lt_of_le HS1.out hbi.size)
          by_cases hjk : j < k
          · have hj0 : (0 : Int) ≤ (j : Int) := Int.natCast_nonneg _
            have hj1 : (j : Int) < (k : Int) := by omega
            have hj2 : (j : Int) < (L.length : Int) := by omega
            obtain ⟨b', off', y, ey, hyl, hY, hyv⟩ := (H.out.below (bstep (Nat.le_refl _) HB1.out hbi)).at (show j < L.length by omega)
            cases ey
            have YN := Lib.hid hyv.nm
            have YU := Lib.hid hyv.num
            obtain ⟨y0, y1, y2, y3, y4, y5, y6, y7, y8, y9⟩ := hY
            obtain ⟨ynum, ynm, ⟨yo, ytn, ytm, ytp, ytl, ytc⟩, ybp, ybn, ybc, yleast, yex, yneeds⟩ := y
            simp only at y0 y1 y2 y3 y4 y5 y6 y7 y8 y9 YN YU
            have HBJ := Lib.hid (balloc (Nat.le_refl _) hbi (.cells #[.int .i64 ynum, .string ynm, .int .i64 yo, .int .i64 ytn, .int .i64 ytm, .slice ytp ytl ytc, .slice ybp ybn ybc, .int .i64 yleast, .int .i64 yex, .bool yneeds] 32))
            have gx0 : (wi.alloc (.cells #[.int .i64 ynum, .string ynm, .int .i64 yo, .int .i64 ytn, .int .i64 ytm, .slice ytp ytl ytc, .slice ybp ybn ybc, .int .i64 yleast, .int .i64 yex, .bool yneeds] 32)).cell? ⟨wo.heap.size, 0, none⟩ = some (.int .i64 num) := (World.cell?_alloc_past _ _ _ HIS.out).trans hx0
            have gx1 : (wi.alloc (.cells #[.int .i64 ynum, .string ynm, .int .i64 yo, .int .i64 ytn, .int .i64 ytm, .slice ytp ytl ytc, .slice ybp ybn ybc, .int .i64 yleast, .int .i64 yex, .bool yneeds] 32)).cell? ⟨wo.heap.size, 1, none⟩ = some (.string nm) := (World.cell?_alloc_past _ _ _ HIS.out).trans hx1
            have TW := Lib.hid (tw_at (L := L) (i := k) (s := L[k]) (show j < L.length by omega))
            obtain ⟨nb, enb⟩ : ∃ x, (ynm.toList == nm.toList) = x := ⟨_, rfl⟩
            have ENB := Lib.hid (show nmIs L[k].nm L[j] = nb from by rw [← enb, bytes_eq, YN.out, RN.out]; rfl)
            have hwi : IntKind.i64.wrap ((k : Int) - 1) = (k : Int) - 1 := by rw [IntKind.wrap_i64]; omega
            clear ht hbi hyv
            cases nb
            · have LST := Lib.hid (fun (z : Bool) (hz : (decide (j + 1 = k) && decide (num ≤ ynum)) = z) => show tw L k L[k] j = z from by rw [TW.out, ENB.out, Bool.false_or, ← RU.out, ← YU.out]; exact hz)
              by_cases hjl : j + 1 = k
              · have g1 : ((j : Int) == (k : Int) - 1) = true := beq_iff_eq.2 (by omega)
                by_cases hle : num ≤ ynum
                · have d1 : decide (num ≤ ynum) = true := decide_eq_true hle
                  have HV := Lib.hid (E6.out (twice_yes (by omega) hjk (LST.out true (by rw [decide_eq_true hjl, d1]; rfl))))
                  clear hle hjl
                  go_wp2
                  go_ret2
                  exact ⟨by rw [HV.out]; rfl, bstep (Nat.le_refl _) HB1.out HBJ.out⟩
                · have d1 : decide (num ≤ ynum) = false := decide_eq_false hle
                  have HV := Lib.hid (LST.out false (by rw [d1, Bool.and_false]))
                  clear hle hjl
                  go_wp2
                  go_roundw
                  case rel => exact ⟨j + 1, by omega, by go_num, fun m hm => by
                    by_cases e : m = j
                    · subst e; exact HV.out
                    · exact HT.out m (by omega), HBJ.out⟩
                  case measure => simp [intOf]; omega
              · have g1 : ((j : Int) == (k : Int) - 1) = false := beq_eq_false_iff_ne.2 (by omega)
                have HV := Lib.hid (LST.out false (by rw [decide_eq_false hjl, Bool.false_and]))
                clear hjl
                go_wp2
                go_roundw
                case rel => exact ⟨j + 1, by omega, by go_num, fun m hm => by
                  by_cases e : m = j
                  · subst e; exact HV.out
                  · exact HT.out m (by omega), HBJ.out⟩
                case measure => simp [intOf]; omega
            · have HV := Lib.hid (E6.out (twice_yes (by omega) hjk (by rw [TW.out, ENB.out, Bool.true_or])))
              go_wp2
              go_ret2
              exact ⟨by rw [HV.out]; rfl, bstep (Nat.le_refl _) HB1.out HBJ.out⟩
          · obtain rfl : j = k := by omega
            have HV := Lib.hid (E0.out (twice_no (by omega) HT.out))
            clear ht hbi
            go_wp2
            go_roundw
            case rel => exact ⟨j + 1, by omega, by go_num, fun m hm => by
              by_cases e : m = j
              · subst e; exact HV.out
              · exact HAL.out m (by omega), bstep (Nat.le_refl _) HB1.out HBI.out⟩
            case measure => simp [intOf]; omega
      · have HV := Lib.hid (show cv = ((k : Int), v) from by rw [← ECV.out, chk_A h16 hlt HAL.out (by rw [errA_one hlt (by rw [EV.out]; exact hv0), EV.out]; exact hv0), errA_one hlt (by rw [EV.out]; exact hv0), EV.out])
        go_wp2_with (first | (go_at_call 48; (with_reducible refine Calls.mono CV.out ?_); rintro e w1 ⟨rfl, hb1⟩; have HB1 := Lib.hid (bstep (Nat.le_refl _) HBA.out hb1); have HZ1 := Lib.hid (show wo.heap.size < w1.heap.size from Nat.lt_of_lt_of_le (by simp) hb1.size); have V0 := Lib.hid ((hb1.cell (p := ⟨wo.heap.size, 0, none⟩) (by simp)).trans (World.cell?_alloc_new _ _ _ _)); have V1 := Lib.hid ((hb1.cell (p := ⟨wo.heap.size, 1, none⟩) (by simp)).trans (World.cell?_alloc_new _ _ _ _)); clear hb1))
        go_ret2
        exact ⟨by rw [HV.out]; rfl, HB1.out⟩
    · obtain rfl : k = L.length := by omega
      clear ha hb
      have HBO := HB
      go_wp2
      go_loopw [61] (fun i wr => ∃ k : Nat, k ≤ L.length ∧ i = .int .i64 k ∧ (∀ j, j < k → errB L j = 0) ∧ Below w.heap.size w wr) (fun i _ => L.length - (intOf i).toNat)
      case atStart => exact ⟨0, Nat.zero_le _, rfl, fun j hj => absurd hj (Nat.not_lt_zero j), HBO.out⟩
      case round =>
        obtain ⟨wp, rfl⟩ : ∃ wp : World, wp = wr := ⟨_, rfl⟩
        obtain ⟨k, hk, rfl, ha, hb⟩ := hrel
        have HBL := Lib.hid ha
        have HC := Lib.hid hb
        have hk0' : (0 : Int) ≤ (k : Int) := Int.natCast_nonneg _
        by_cases hlt : k < L.length
        · have hk1 : (k : Int) < (L.length : Int) := by omega
          obtain ⟨b, off, r, rfl, hbl, hCc, hv⟩ := (H.out.below hb).at hlt
          have HN := errA_num hlt (HAL.out k hlt)
          have RU := Lib.hid hv.num
          have RE := Lib.hid hv.ex
          obtain ⟨c0, c1, c2, c3, c4, c5, c6, c7, c8, c9⟩ := hCc
          obtain ⟨num, nm, ⟨o, tn, tm, tp, tl, tc⟩, bp, bn, bc, least, ex, needs⟩ := r
          simp only at c0 c1 c2 c3 c4 c5 c6 c7 c8 c9 RU RE
          have HBA := Lib.hid (balloc (Nat.le_refl _) HC.out (.cells #[.int .i64 num, .string nm, .int .i64 o, .int .i64 tn, .int .i64 tm, .slice tp tl tc, .slice bp bn bc, .int .i64 least, .int .i64 ex, .bool needs] 32))
          have ER := Lib.hid (errB_at hlt)
          obtain ⟨s, es⟩ : ∃ s, L[k] = s := ⟨_, rfl⟩
          have h0 : 0 ≤ num := by rw [RU.out]; exact HN.1
          have h15 : num ≤ 15 := by rw [RU.out]; exact HN.2
          have RU2 := Lib.hid (show num = s.num from es ▸ RU.out)
          have RE2 := Lib.hid (show ex = s.ex from es ▸ RE.out)
          rw [es] at ER
          clear ha hb hv HN es RU RE
          go_wp2_with (fail)
          obtain ⟨W1, eW1⟩ : ∃ W : World, W = wp.alloc (.cells #[.int .i64 num, .string nm, .int .i64 o, .int .i64 tn, .int .i64 tm, .slice tp tl tc, .slice bp bn bc, .int .i64 least, .int .i64 ex, .bool needs] 32) := ⟨_, rfl⟩
          have HS1 := Lib.hid (show wp.heap.size < W1.heap.size by rw [eW1]; simp)
          have V0 := Lib.hid (show W1.cell? ⟨wp.heap.size, 0, none⟩ = some (.int .i64 num) from by rw [eW1]; exact World.cell?_alloc_new _ _ _ 0)
          have V5 := Lib.hid (show W1.cell? ⟨wp.heap.size, 8, none⟩ = some (.int .i64 ex) from by rw [eW1]; exact World.cell?_alloc_new _ _ _ 8)
          have HB1 := Lib.hid (show Below w.heap.size w W1 from by rw [eW1]; exact HBA.out)
          rw [← eW1]
          clear eW1
          go_loopw [11] (fun i wr => ∃ n : Nat, n ≤ 16 ∧ i = .int .i64 n ∧ (List.range n).all (mutN L s) = true ∧ Below W1.heap.size W1 wr) (fun i _ => 16 - (intOf i).toNat)
          case atStart => exact ⟨0, Nat.zero_le _, rfl, rfl, Below.refl _ _⟩
          case round =>
            obtain ⟨wi, rfl⟩ : ∃ wi : World, wi = wr := ⟨_, rfl⟩
            obtain ⟨n, hn, rfl, hm, hbi⟩ := hrel
            have HM := Lib.hid hm
            have HBI := Lib.hid hbi
            have HBW := Lib.hid (bstep (Nat.le_refl _) HB1.out hbi)
            have hx0 := (hbi.cell (p := ⟨wp.heap.size, 0, none⟩) HS1.out).trans V0.out
            have hx8 := (hbi.cell (p := ⟨wp.heap.size, 8, none⟩) HS1.out).trans V5.out
            have HSZ := Lib.hid (Nat.lt_of_lt_of_le HS1.out hbi.size)
            obtain ⟨i, ei⟩ : ∃ i : Int, (n : Int) = i := ⟨_, rfl⟩
            have EI := Lib.hid ei
            have hi0 : (0 : Int) ≤ i := by omega
            rw [ei]
            by_cases hlt2 : n < 16
            · have hi1 : i < 16 := by omega
              have hi2 : i ≤ 15 := by omega
              cases eb : bitB ex i
              · have EB : (bits BinOp.and IntKind.i64 (ex / 2 ^ i.toNat) 1 == 0) = true := by rw [bit_zero, eb]; rfl
                have HM2 := Lib.hid (show (List.range (n + 1)).all (mutN L s) = true by rw [all_range_succ, HM.out, mut_zero (by rw [← RE2.out, EI.out]; exact eb)]; rfl)
                clear hm hbi eb ei
                go_wp2
                go_roundw
                case rel => exact ⟨n + 1, by omega, by rw [← EI.out]; go_num, HM2.out, HBI.out⟩
                case measure => rw [← EI.out]; simp [intOf]; omega
              · have EB : (bits BinOp.and IntKind.i64 (ex / 2 ^ i.toNat) 1 == 0) = false := by rw [bit_zero, eb]; rfl
                have EBH := Lib.hid (show bitB s.ex n = true by rw [← RE2.out, EI.out]; exact eb)
                have CF := Lib.hid (reffind17_any d (some ⟨b, off, none⟩) L cap i wi (H.out.below HBW.out))
                have FG := Lib.hid (find17_ge L i)
                obtain ⟨f, ef⟩ : ∃ f, find17 L i = f := ⟨_, rfl⟩
                rw [ef] at CF FG
                have EF := Lib.hid (show find17 L n = f by rw [EI.out]; exact ef)
                have BAD := Lib.hid (fun (h : mutN L s n = false) => show cv = ((k : Int), 17) from by rw [← ECV.out, chk_B h16 HAL.out hlt HBL.out (by rw [ER.out, mut_bad hlt2 h]; decide)])
                clear hm hbi eb ei ef
                rcases Int.lt_or_le f 0 with hf | hf
                · have HV := Lib.hid (BAD.out (mut_none EBH.out (by rw [EF.out]; exact hf)))
                  have d1 : decide (f < 0) = true := decide_eq_true hf
                  clear hf
                  go_wp2_with (first | (go_at_call 23; (with_reducible refine Calls.mono CF.out ?_); rintro e w1 ⟨rfl, hb1⟩; have HB2 := Lib.hid (bstep (Nat.le_refl _) HBW.out hb1); clear hb1))
                  go_quiet (fail)
                  go_wp2
                  go_ret2
                  exact ⟨by rw [HV.out]; rfl, HB2.out.trans ((drewN_below _ _).mono HB2.out.size)⟩
                · have d1 : decide (f < 0) = false := by rw [decide_eq_false_iff_not]; omega
                  obtain ⟨j, rfl⟩ := Int.eq_ofNat_of_zero_le hf
                  have hj : j < L.length := by have := FG.out; omega
                  have MS := Lib.hid (mut_some EBH.out EF.out hj)
                  obtain ⟨b', off', x, ex', hbl2, hC, hv⟩ := (H.out.below HBW.out).at hj
                  cases ex'
                  have C8 := Lib.hid hC.c8
                  have hxe := hv.ex
                  have hj0' : (0 : Int) ≤ (j : Int) := Int.natCast_nonneg _
                  have hj1' : (j : Int) < (L.length : Int) := by omega
                  obtain ⟨xe, exe⟩ : ∃ xe, x.ex = xe := ⟨_, rfl⟩
                  rw [exe] at C8 hxe
                  have EN := RU2.out
                  cases eb2 : bitB xe num
                  · have EB2 : (bits BinOp.and IntKind.i64 (xe / 2 ^ num.toNat) 1 == 0) = true := by rw [bit_zero, eb2]; rfl
                    have HV := Lib.hid (BAD.out (by rw [MS.out, ← hxe, ← EN]; exact eb2))
                    clear hf hC hv eb2 hxe exe EN
                    go_wp2_with (first | (go_at_call 23; (with_reducible refine Calls.mono CF.out ?_); rintro e w1 ⟨rfl, hb1⟩; have HB2 := Lib.hid (bstep (Nat.le_refl _) HBW.out hb1); have HB3 := Lib.hid (bstep (Nat.le_refl _) HBI.out hb1); have hj0 := (hb1.cell (p := ⟨wp.heap.size, 0, none⟩) HSZ.out).trans hx0; have hx8' := (hb1.cell (p := ⟨b, off + j * 10 + 8, none⟩) hbl2).trans C8.out; clear hb1))
                    go_quiet (fail)
                    go_wp2
                    go_ret2
                    exact ⟨by rw [HV.out]; rfl, HB2.out.trans ((drewN_below _ _).mono HB2.out.size)⟩
                  · have EB2 : (bits BinOp.and IntKind.i64 (xe / 2 ^ num.toNat) 1 == 0) = false := by rw [bit_zero, eb2]; rfl
                    have HM2 := Lib.hid (show (List.range (n + 1)).all (mutN L s) = true by rw [all_range_succ, HM.out, MS.out, ← hxe, ← EN, eb2]; rfl)
                    clear hf hC hv eb2 hxe exe EN
                    go_wp2_with (first | (go_at_call 23; (with_reducible refine Calls.mono CF.out ?_); rintro e w1 ⟨rfl, hb1⟩; have HB2 := Lib.hid (bstep (Nat.le_refl _) HBW.out hb1); have HB3 := Lib.hid (bstep (Nat.le_refl _) HBI.out hb1); have hj0 := (hb1.cell (p := ⟨wp.heap.size, 0, none⟩) HSZ.out).trans hx0; have hx8' := (hb1.cell (p := ⟨b, off + j * 10 + 8, none⟩) hbl2).trans C8.out; clear hb1))
                    go_quiet (fail)
                    go_wp2
                    go_roundw
                    case rel => exact ⟨n + 1, by omega, by rw [← EI.out]; go_num, HM2.out, HB3.out.trans ((drewN_below _ _).mono HB3.out.size)⟩
                    case measure => rw [← EI.out]; simp [intOf]; omega
            · obtain rfl : n = 16 := by omega
              have HV := Lib.hid (show errB L k = 0 from by rw [ER.out, if_pos (show mutual17 L s = true from hm)])
              have hi1 : i = 16 := ei.symm
              clear hm hbi ei
              subst hi1
              go_wp2
              go_roundw
              case rel => exact ⟨k + 1, by omega, by go_num, fun j hj => by
                by_cases e : j = k
                · subst e; exact HV.out
                · exact HBL.out j (by omega), HBW.out⟩
              case measure => simp [intOf]; omega
        · obtain rfl : k = L.length := by omega
          have HV := Lib.hid (show cv = (-1, 0) from ECV.out ▸ chk_ok h16 HAL.out HBL.out)
          clear ha hb
          go_wp2
          go_ret2
          exact ⟨by rw [HV.out]; rfl, HC.out⟩

end Go.Proofs.YtflcdkibjakciaaGreatDoor
