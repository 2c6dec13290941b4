/-
  THE WALK over ref39.Check.
-/
import Derived.Test.YtdnddikchchdkaaD3p
namespace Go.Proofs.Ytdnddikchchdkaa
open Go.RowKit

set_option maxRecDepth 100000 in
set_option maxHeartbeats 16000000 in
theorem refcheck39_B (farm next : Int) (p : Option Addr) (L : List De.Dbt) (cap : Nat) (w : World) (h : Debts w p L) (hgr : ∀ k, k < L.length → (∀ j, j < k → De.okAt L next j) → ¬ De.okAt L next k → grpB L next k) :
    Calls Try.prog 36 #[accV farm p L.length cap next] w fun e w' => e = .returned (.int .i64 (De.chk farm L next)) ∧ Below w.heap.size w w' := by
  unfold accV
  have hn := h.len
  by_cases hh : farm < 1 ∨ 60 < farm ∨ 40 < L.length ∨ next < 1 ∨ 1125899906842624 < next
  · exact refcheck39_head farm next p L cap w h hh
  · have f1 : 1 ≤ farm ∧ farm ≤ 60 := by omega
    have f2 : L.length ≤ 40 := by omega
    have f3 : 1 ≤ next ∧ next ≤ 1125899906842624 := by omega
    obtain ⟨f11, f12⟩ := f1
    obtain ⟨f31, f32⟩ := f3
    have H := Lib.hid h
    have GH := Lib.hid hgr
    clear h hh hgr
    go_enter Try.func36, Try.ntmps36
    go_wp2
    go_loopw [3, 4] (fun s i wr => ∃ k : Nat, k ≤ L.length ∧ i = .int .i64 k ∧ s = .int .i64 (De.total (L.take k)) ∧ (∀ j, j < k → De.okAt L next j) ∧ Below (w.heap.size + 1) (w.alloc (Obj.cells #[.int .i64 farm, .slice p L.length cap, .int .i64 next] 42)) wr) (fun _ i _ => L.length - (intOf i).toNat)
    case atStart => exact ⟨0, Nat.zero_le _, rfl, rfl, fun j hj => absurd hj (Nat.not_lt_zero j), Below.refl _ _⟩
    case round =>
      obtain ⟨k, hk, rfl, rfl, hok, hb⟩ := hrel
      have a0 := (hb.cell (p := ⟨w.heap.size, 0, none⟩) (by simp)).trans (show _ = some (Value.int .i64 farm) by go_simp)
      have a1 := (hb.cell (p := ⟨w.heap.size, 1, none⟩) (by simp)).trans (show _ = some (Value.slice p L.length cap) by go_simp)
      have a2 := (hb.cell (p := ⟨w.heap.size, 2, none⟩) (by simp)).trans (show _ = some (Value.int .i64 next) by go_simp)
      have HOK := Lib.hid hok
      have HB := Lib.hid hb
      have hsz := hb.size
      simp only [World.size_alloc] at hsz
      have hlt0 : w.heap.size < wr.heap.size := by omega
      have HH := Lib.hid ((H.out.below ((Below.refl w.heap.size w).alloc (Nat.le_refl _) (Obj.cells #[.int .i64 farm, .slice p L.length cap, .int .i64 next] 42))).below (hb.mono (by simp)))
      have hbe : Below w.heap.size w wr := bnext ((Below.refl w.heap.size w).alloc (Nat.le_refl _) _) (by simp) (hb.mono (by simp))
      have BE := Lib.hid hbe
      obtain ⟨pv, epv⟩ : ∃ x, De.prv L k = x := ⟨_, rfl⟩
      have EP := Lib.hid epv
      obtain ⟨t0, t1⟩ := tk_bd hok hk f2
      clear hok hb hbe epv
      by_cases hlt : k < L.length
      · obtain ⟨b, off, d, rfl, hbl, hD, hd⟩ := SD_at HH.out hlt
        obtain ⟨c0, c1, c2, c3, c4⟩ := hD
        have hk0 : (0 : Int) ≤ (k : Int) := Int.natCast_nonneg _
        have hk1 : (k : Int) < (L.length : Int) := by omega
        have hst := Lib.hid (De.total_take hlt)
        have bad : ¬ (pv < d.num ∧ d.num < next ∧ De.good d) → De.chk farm L next = 22 := chk_loop hlt hd.out EP.out
        have BAD := Lib.hid bad
        have BAD2 := Lib.hid (fun (hh : De.okAt L next k) (hn : ¬ (pv < d.num ∧ d.num < next ∧ De.good d)) => hn (by unfold De.okAt at hh; rw [hd.out, EP.out] at hh; exact hh))
        clear bad
        rcases Nat.eq_zero_or_pos k with rfl | hpos
        · obtain rfl : pv = 0 := EP.out.symm
          simp only [Nat.zero_mul, Nat.add_zero] at c0 c1 c2 c3 c4
          have e0 : De.total (L.take 0) = 0 := rfl
          rw [e0] at t0 t1 ⊢
          clear e0
          by_cases y0 : d.num < 1
          · exfalso
            have hg := GH.out 0 hlt HOK.out (fun hh => BAD2.out hh (by unfold De.good; omega))
            unfold grpB at hg
            rw [hd.out, EP.out] at hg
            omega
          have f0 : decide (d.num < 1) = false := decide_eq_false y0
          by_cases y1 : next ≤ d.num
          · exfalso
            have hg := GH.out 0 hlt HOK.out (fun hh => BAD2.out hh (by unfold De.good; omega))
            unfold grpB at hg
            rw [hd.out, EP.out] at hg
            omega
          have f1 : decide (next ≤ d.num) = false := decide_eq_false y1
          by_cases y2 : d.dec < 1
          · have hc := Lib.hid (BAD.out (by unfold De.good; omega))
            have f2 : decide (d.dec < 1) = true := decide_eq_true y2
            go_wp2_with fail
            refine wp_region_quiet_lit (by kernel_rfl) (by kernel_rfl) ?_
            try simp only [List.append_eq, List.cons_append, List.nil_append]
            repeat (go_big_quiet_step (fail))
            refine wpQuiet_nil ?_
            intro _ hwq
            obtain ⟨nq, hwr⟩ := hwq
            subst hwr
            go_wp2
            go_ret
            exact ⟨by rw [hc.out]; rfl, bstep (Nat.le_refl _) (balloc (Nat.le_refl _) BE.out _) (drewN_below _ _)⟩
          have f2 : decide (d.dec < 1) = false := decide_eq_false y2
          by_cases y3 : 1125899906842624 < d.dec
          · have hc := Lib.hid (BAD.out (by unfold De.good; omega))
            have f3 : decide (1125899906842624 < d.dec) = true := decide_eq_true y3
            go_wp2_with fail
            refine wp_region_quiet_lit (by kernel_rfl) (by kernel_rfl) ?_
            try simp only [List.append_eq, List.cons_append, List.nil_append]
            repeat (go_big_quiet_step (fail))
            refine wpQuiet_nil ?_
            intro _ hwq
            obtain ⟨nq, hwr⟩ := hwq
            subst hwr
            go_wp2
            go_ret
            exact ⟨by rw [hc.out]; rfl, bstep (Nat.le_refl _) (balloc (Nat.le_refl _) BE.out _) (drewN_below _ _)⟩
          have f3 : decide (1125899906842624 < d.dec) = false := decide_eq_false y3
          by_cases y4 : d.due < 0
          · have hc := Lib.hid (BAD.out (by unfold De.good; omega))
            have f4 : decide (d.due < 0) = true := decide_eq_true y4
            go_wp2_with fail
            refine wp_region_quiet_lit (by kernel_rfl) (by kernel_rfl) ?_
            try simp only [List.append_eq, List.cons_append, List.nil_append]
            repeat (go_big_quiet_step (fail))
            refine wpQuiet_nil ?_
            intro _ hwq
            obtain ⟨nq, hwr⟩ := hwq
            subst hwr
            go_wp2
            go_ret
            exact ⟨by rw [hc.out]; rfl, bstep (Nat.le_refl _) (balloc (Nat.le_refl _) BE.out _) (drewN_below _ _)⟩
          have f4 : decide (d.due < 0) = false := decide_eq_false y4
          by_cases y5 : 36864 < d.due
          · exfalso
            have hg := GH.out 0 hlt HOK.out (fun hh => BAD2.out hh (by unfold De.good; omega))
            unfold grpB at hg
            rw [hd.out, EP.out] at hg
            omega
          have f5 : decide (36864 < d.due) = false := decide_eq_false y5
          by_cases y6 : d.amt < 1
          · exfalso
            have hg := GH.out 0 hlt HOK.out (fun hh => BAD2.out hh (by unfold De.good; omega))
            unfold grpB at hg
            rw [hd.out, EP.out] at hg
            omega
          have f6 : decide (d.amt < 1) = false := decide_eq_false y6
          by_cases y7 : 68719476736 < d.amt
          · exfalso
            have hg := GH.out 0 hlt HOK.out (fun hh => BAD2.out hh (by unfold De.good; omega))
            unfold grpB at hg
            rw [hd.out, EP.out] at hg
            omega
          have f7 : decide (68719476736 < d.amt) = false := decide_eq_false y7
          by_cases y8 : d.left < 1
          · exfalso
            have hg := GH.out 0 hlt HOK.out (fun hh => BAD2.out hh (by unfold De.good; omega))
            unfold grpB at hg
            rw [hd.out, EP.out] at hg
            omega
          have f8 : decide (d.left < 1) = false := decide_eq_false y8
          by_cases y9 : d.amt < d.left
          · exfalso
            have hg := GH.out 0 hlt HOK.out (fun hh => BAD2.out hh (by unfold De.good; omega))
            unfold grpB at hg
            rw [hd.out, EP.out] at hg
            omega
          have f9 : decide (d.amt < d.left) = false := decide_eq_false y9
          have NX := Lib.hid (ok_next HOK.out hd.out EP.out (by unfold De.good; omega))
          go_wp2_with fail
          refine wp_region_quiet_lit (by kernel_rfl) (by kernel_rfl) ?_
          try simp only [List.append_eq, List.cons_append, List.nil_append]
          repeat (go_big_quiet_step (fail))
          refine wpQuiet_nil ?_
          intro _ hwq
          obtain ⟨nq, hwr⟩ := hwq
          subst hwr
          go_wp2
          go_roundw
          case rel => exact ⟨0 + 1, by omega, by go_num, by rw [hst.out, hd.out, show De.total (L.take 0) = 0 from rfl, Int.zero_add], NX.out, bnext (HB.out.alloc (by omega) _) (by simp; omega) (drewN_below _ _)⟩
          case measure => simp [intOf]; omega
        · obtain ⟨k', rfl⟩ : ∃ k', k = k' + 1 := ⟨k - 1, by omega⟩
          obtain ⟨b', off', pd, e, -, hD', hpd⟩ := SD_at HH.out (show k' < L.length by omega)
          simp only [Option.some.injEq, Addr.mk.injEq] at e
          obtain ⟨rfl, rfl, -⟩ := e
          obtain ⟨q0, -, -, -, -⟩ := hD'
          obtain rfl : pv = pd.num := by rw [← EP.out, prv_succ hpd.out]
          have hw : IntKind.i64.wrap ((k' : Int) + 1 - 1) = (k' : Int) := by rw [IntKind.wrap_i64]; omega
          have hw2 : IntKind.i64.wrap (k' : Int) = (k' : Int) := by rw [IntKind.wrap_i64]; omega
          have hq0 : (0 : Int) ≤ (k' : Int) := Int.natCast_nonneg _
          have hq1 : (k' : Int) < (L.length : Int) := by omega
          have hk0' : (0 : Int) ≤ (k' : Int) + 1 := by omega
          have hk1' : (k' : Int) + 1 < (L.length : Int) := by omega
          have hk2' : (0 : Int) < (k' : Int) + 1 := by omega
          have hpn : 1 ≤ pd.num := by
            have h1 := De.asc_of_ok (L := L.take (k' + 1)) (next := next) (fun i hi => by
              rw [List.length_take] at hi
              have := HOK.out i (by omega)
              unfold De.okAt De.prv De.g at this ⊢
              simp only [List.getD_eq_getElem?_getD, List.getElem?_take] at this ⊢
              rw [if_pos (show i < k' + 1 by omega)]
              by_cases e : i = 0
              · rw [if_pos e] at this ⊢; exact this
              · rw [if_neg e] at this ⊢; rw [if_pos (show i - 1 < k' + 1 by omega)]; exact this)
            have h2 := (h1.2 pd (by
              rw [← hpd.out, De.g_eq (show k' < L.length by omega)]
              exact List.mem_take_iff_getElem.2 ⟨k', by omega, rfl⟩)).1
            exact h2
          by_cases y0 : d.num < 1
          · exfalso
            have hg := GH.out (k' + 1) hlt HOK.out (fun hh => BAD2.out hh (by unfold De.good; omega))
            unfold grpB at hg
            rw [hd.out, EP.out] at hg
            omega
          have f0 : decide (d.num < 1) = false := decide_eq_false y0
          by_cases y1 : next ≤ d.num
          · exfalso
            have hg := GH.out (k' + 1) hlt HOK.out (fun hh => BAD2.out hh (by unfold De.good; omega))
            unfold grpB at hg
            rw [hd.out, EP.out] at hg
            omega
          have f1 : decide (next ≤ d.num) = false := decide_eq_false y1
          by_cases y2 : d.num ≤ pd.num
          · exfalso
            have hg := GH.out (k' + 1) hlt HOK.out (fun hh => BAD2.out hh (by unfold De.good; omega))
            unfold grpB at hg
            rw [hd.out, EP.out] at hg
            omega
          have f2 : decide (d.num ≤ pd.num) = false := decide_eq_false y2
          by_cases y3 : d.dec < 1
          · have hc := Lib.hid (BAD.out (by unfold De.good; omega))
            have f3 : decide (d.dec < 1) = true := decide_eq_true y3
            go_wp2_with fail
            refine wp_region_quiet_lit (by kernel_rfl) (by kernel_rfl) ?_
            try simp only [List.append_eq, List.cons_append, List.nil_append]
            repeat (go_big_quiet_step (fail))
            refine wpQuiet_nil ?_
            intro _ hwq
            obtain ⟨nq, hwr⟩ := hwq
            subst hwr
            go_wp2
            go_ret
            exact ⟨by rw [hc.out]; rfl, bstep (Nat.le_refl _) (balloc (Nat.le_refl _) BE.out _) (drewN_below _ _)⟩
          have f3 : decide (d.dec < 1) = false := decide_eq_false y3
          by_cases y4 : 1125899906842624 < d.dec
          · have hc := Lib.hid (BAD.out (by unfold De.good; omega))
            have f4 : decide (1125899906842624 < d.dec) = true := decide_eq_true y4
            go_wp2_with fail
            refine wp_region_quiet_lit (by kernel_rfl) (by kernel_rfl) ?_
            try simp only [List.append_eq, List.cons_append, List.nil_append]
            repeat (go_big_quiet_step (fail))
            refine wpQuiet_nil ?_
            intro _ hwq
            obtain ⟨nq, hwr⟩ := hwq
            subst hwr
            go_wp2
            go_ret
            exact ⟨by rw [hc.out]; rfl, bstep (Nat.le_refl _) (balloc (Nat.le_refl _) BE.out _) (drewN_below _ _)⟩
          have f4 : decide (1125899906842624 < d.dec) = false := decide_eq_false y4
          by_cases y5 : d.due < 0
          · have hc := Lib.hid (BAD.out (by unfold De.good; omega))
            have f5 : decide (d.due < 0) = true := decide_eq_true y5
            go_wp2_with fail
            refine wp_region_quiet_lit (by kernel_rfl) (by kernel_rfl) ?_
            try simp only [List.append_eq, List.cons_append, List.nil_append]
            repeat (go_big_quiet_step (fail))
            refine wpQuiet_nil ?_
            intro _ hwq
            obtain ⟨nq, hwr⟩ := hwq
            subst hwr
            go_wp2
            go_ret
            exact ⟨by rw [hc.out]; rfl, bstep (Nat.le_refl _) (balloc (Nat.le_refl _) BE.out _) (drewN_below _ _)⟩
          have f5 : decide (d.due < 0) = false := decide_eq_false y5
          by_cases y6 : 36864 < d.due
          · exfalso
            have hg := GH.out (k' + 1) hlt HOK.out (fun hh => BAD2.out hh (by unfold De.good; omega))
            unfold grpB at hg
            rw [hd.out, EP.out] at hg
            omega
          have f6 : decide (36864 < d.due) = false := decide_eq_false y6
          by_cases y7 : d.amt < 1
          · exfalso
            have hg := GH.out (k' + 1) hlt HOK.out (fun hh => BAD2.out hh (by unfold De.good; omega))
            unfold grpB at hg
            rw [hd.out, EP.out] at hg
            omega
          have f7 : decide (d.amt < 1) = false := decide_eq_false y7
          by_cases y8 : 68719476736 < d.amt
          · exfalso
            have hg := GH.out (k' + 1) hlt HOK.out (fun hh => BAD2.out hh (by unfold De.good; omega))
            unfold grpB at hg
            rw [hd.out, EP.out] at hg
            omega
          have f8 : decide (68719476736 < d.amt) = false := decide_eq_false y8
          by_cases y9 : d.left < 1
          · exfalso
            have hg := GH.out (k' + 1) hlt HOK.out (fun hh => BAD2.out hh (by unfold De.good; omega))
            unfold grpB at hg
            rw [hd.out, EP.out] at hg
            omega
          have f9 : decide (d.left < 1) = false := decide_eq_false y9
          by_cases y10 : d.amt < d.left
          · exfalso
            have hg := GH.out (k' + 1) hlt HOK.out (fun hh => BAD2.out hh (by unfold De.good; omega))
            unfold grpB at hg
            rw [hd.out, EP.out] at hg
            omega
          have f10 : decide (d.amt < d.left) = false := decide_eq_false y10
          have NX := Lib.hid (ok_next HOK.out hd.out EP.out (by unfold De.good; omega))
          go_wp2_with fail
          refine wp_region_quiet_lit (by kernel_rfl) (by kernel_rfl) ?_
          try simp only [List.append_eq, List.cons_append, List.nil_append]
          repeat (go_big_quiet_step (fail))
          refine wpQuiet_nil ?_
          intro _ hwq
          obtain ⟨nq, hwr⟩ := hwq
          subst hwr
          go_wp2
          go_roundw
          case rel => exact ⟨(k' + 1) + 1, by omega, by go_num, by rw [hst.out, hd.out], NX.out, bnext (HB.out.alloc (by omega) _) (by simp; omega) (drewN_below _ _)⟩
          case measure => simp [intOf]; omega
      · obtain rfl : k = L.length := by omega
        have htk : L.take L.length = L := List.take_length
        rw [htk] at t0 t1
        rw [htk]
        clear htk
        by_cases ht : 68719476736 < De.total L
        · have hc := Lib.hid (show De.chk farm L next = 22 from De.chk_bad fun hR => by have := hR.tot; omega)
          go_wp2
          go_ret
          exact ⟨by rw [hc.out]; rfl, BE.out⟩
        · have hc := Lib.hid (De.chk_ok (right_of ⟨f11, f12⟩ f2 ⟨f31, f32⟩ HOK.out (by omega)))
          go_wp2
          go_ret
          exact ⟨by rw [hc.out]; rfl, BE.out⟩

end Go.Proofs.Ytdnddikchchdkaa
