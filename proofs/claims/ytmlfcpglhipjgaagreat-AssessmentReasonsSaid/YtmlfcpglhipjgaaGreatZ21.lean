/-
  PACKED (pack8.py): what is needed of the texts Q21.
-/
import Derived.Test.YtmlfcpglhipjgaaGreatZ0
import Derived.Test.YtmlfcpglhipjgaaGreatZ1
import Derived.Test.YtmlfcpglhipjgaaGreatZ2
import Derived.Test.YtmlfcpglhipjgaaGreatZ4
import Derived.Test.YtmlfcpglhipjgaaGreatZ9
import Derived.Test.YtmlfcpglhipjgaaGreatZ13
import Derived.Test.YtmlfcpglhipjgaaGreatZ15
import Derived.Test.YtmlfcpglhipjgaaGreatZ17
import Derived.Test.YtmlfcpglhipjgaaGreatZ20
namespace Go.Proofs.YtmlfcpglhipjgaaGreat.Sc
end Go.Proofs.YtmlfcpglhipjgaaGreat.Sc
namespace Go.Proofs.YtmlfcpglhipjgaaGreat.As
end Go.Proofs.YtmlfcpglhipjgaaGreat.As
namespace Go.Proofs.YtmlfcpglhipjgaaGreat
open Go.RowKit Sc As
theorem As.YOk.num {l : YLaw} (h : YOk l) : ∀ s ∈ l.sch, 0 ≤ s.num ∧ s.num ≤ 15 := fun _ hs => (lawOk h.sch).num hs
theorem As.farmAt_zero {l : YLaw} {F : List FarmF} (h : 0 < F.length) : farmAt l F 0 = farmB l F[0] := by
 unfold farmAt; rw [List.getElem?_eq_getElem h]; simp
theorem As.farmAt_succ {l : YLaw} {F : List FarmF} {k : Nat} (h : k + 1 < F.length) : farmAt l F (k + 1) = (farmB l F[k + 1] && decide (F[k].farm < F[k + 1].farm)) := by
 unfold farmAt; rw [List.getElem?_eq_getElem h]; simp only; rw [List.getElem?_eq_getElem (by omega)]
theorem As.farmAt_bad {l : YLaw} {F : List FarmF} {k : Nat} (hk : k < F.length) (h : farmB l F[k] = false) : farmAt l F k = false := by
 unfold farmAt; rw [List.getElem?_eq_getElem hk]; simp only; rw [h]; rfl
theorem As.chkF_bad {l : YLaw} {F : List FarmF} {k : Nat} (h0 : chkY l = 0) (h1 : ¬ 10 < F.length) (hk : k < F.length) (h : farmAt l F k = false) : chkF l F = 68 := by
 unfold chkF
 rw [if_neg (by omega), if_neg h1, if_neg]
 rw [List.all_eq_true]
 intro h2
 rw [h2 k (List.mem_range.2 hk)] at h
 cases h
theorem As.chkF_good {l : YLaw} {F : List FarmF} (h0 : chkY l = 0) (h1 : ¬ 10 < F.length) (h : ∀ k, k < F.length → farmAt l F k = true) : chkF l F = 0 := by
 unfold chkF
 rw [if_neg (by omega), if_neg h1, if_pos]
 rw [List.all_eq_true]
 exact fun k hk => h k (List.mem_range.1 hk)
set_option maxRecDepth 100000 in
set_option maxHeartbeats 8000000 in
theorem facts34_any {Q Q2 : Nat → Prop} (d : Nat) (r : RY) (l : YLaw) (p : Option Addr) (F : List FarmF) (cap : Nat) (w : World) (h : YV Q w d r l) (hsc : r.sn ≤ r.sc) (hF : FsAt Q2 w p F) :
  Calls Tryz.prog 24 #[.agg (yCells r).toArray, .slice p F.length cap] w (IntG (chkF l F) w) := by
 have hlen := hF.len
 have H := Lib.hid hF
 have HA := Lib.hid (balloc (Nat.le_refl _) (Below.refl w.heap.size w) (.cells #[.slice r.sp r.sn r.sc, .slice r.tp r.tn r.tc, .int .i64 r.due, .int .i64 r.last, .int .i64 r.mille, .slice r.gp r.gn r.gc, .int .i64 r.cap, .int .i64 r.env, .int .i64 r.unit, .int .i64 r.width] 29))
 have CK := Lib.hid (check34_any d r l (w.alloc (.cells #[.slice r.sp r.sn r.sc, .slice r.tp r.tn r.tc, .int .i64 r.due, .int .i64 r.last, .int .i64 r.mille, .slice r.gp r.gn r.gc, .int .i64 r.cap, .int .i64 r.env, .int .i64 r.unit, .int .i64 r.width] 29)) (h.below (balloc (Nat.le_refl _) (Below.refl w.heap.size w) _)) hsc)
 have FA := Lib.hid (fun (ho : YOk l) (W : World) (hW : Below w.heap.size w W) (y : RF) (f : FarmF) (hf : FV Q2 W y f) => farm34_any d r l y f W (h.below hW) ho.num hf)
 simp only [yCells, fCells] at CK FA
 obtain ⟨V, eV⟩ : ∃ V, chkF l F = V := ⟨_, rfl⟩
 have EV := Lib.hid eV
 rw [eV]
 clear eV h hF hsc
 simp only [yCells]
 by_cases hc : chkY l = 0
 rotate_left
 ·have E := Lib.hid (show V = chkY l from by rw [← EV.out]; unfold chkF; rw [if_pos hc])
  obtain ⟨v, ev⟩ : ∃ v, chkY l = v := ⟨_, rfl⟩
  rw [ev] at CK E hc
  have hne : (v != 0) = true := by simpa using hc
  clear ev hc
  go_enter Tryz.func24, Tryz.ntmps24
  go_wp2_with (first | (go_at_call 21; (with_reducible refine Calls.mono CK.out ?_); rintro e w1 ⟨rfl, hb1⟩; have HB1 := Lib.hid (bstep (Nat.le_refl _) HA.out hb1); clear hb1) | fail)
  go_ret
  exact ⟨by rw [E.out]; rfl, HB1.out⟩
 have HC := Lib.hid hc
 rw [hc] at CK
 have FO := Lib.hid (FA.out (chkY_ok hc))
 clear hc FA
 by_cases h10 : 10 < F.length
 ·have E := Lib.hid (show V = 1 from by rw [← EV.out]; unfold chkF; rw [if_neg (by rw [HC.out]; decide), if_pos h10])
  have h10' : (10 : Int) < (F.length : Int) := by omega
  clear h10
  go_enter Tryz.func24, Tryz.ntmps24
  go_wp2_with (first | (go_at_call 21; (with_reducible refine Calls.mono CK.out ?_); rintro e w1 ⟨rfl, hb1⟩; have HB1 := Lib.hid (bstep (Nat.le_refl _) HA.out hb1); clear hb1) | fail)
  go_ret
  exact ⟨by rw [E.out]; rfl, HB1.out⟩
 have H10 := Lib.hid h10
 have h10' : ¬ (10 : Int) < (F.length : Int) := by omega
 have BAD := Lib.hid (fun (k : Nat) (hk : k < F.length) (h : farmAt l F k = false) => show V = 68 from by rw [← EV.out]; exact chkF_bad HC.out H10.out hk h)
 have GOOD := Lib.hid (fun (h : ∀ k, k < F.length → farmAt l F k = true) => show V = 0 from by rw [← EV.out]; exact chkF_good HC.out H10.out h)
 clear h10
 go_enter Tryz.func24, Tryz.ntmps24
 go_wp2_with (first | (go_at_call 21; (with_reducible refine Calls.mono CK.out ?_); rintro e w1 ⟨rfl, hb1⟩; have HB1 := Lib.hid (bstep (Nat.le_refl _) HA.out hb1); have P1 := Lib.hid ((YCells.box w r 29).below hb1 (by simp)); have S1 := Lib.hid (show w.heap.size < w1.heap.size from Nat.lt_of_lt_of_le (by simp) hb1.size); clear hb1) | fail)
 go_loopw [18] (fun i wr => ∃ k : Nat, k ≤ F.length ∧ i = .int .i64 k ∧ (∀ j, j < k → farmAt l F j = true) ∧ Below w1.heap.size w1 wr) (fun i _ => F.length - (intOf i).toNat)
 case atStart => exact ⟨0, Nat.zero_le _, rfl, fun j hj => absurd hj (Nat.not_lt_zero j), Below.refl _ _⟩
 case round =>
  obtain ⟨wp, rfl⟩ : ∃ wp : World, wp = wr := ⟨_, rfl⟩
  obtain ⟨k, hk, rfl, hall, hb⟩ := hrel
  have HAL := Lib.hid hall
  have HBP := Lib.hid (bstep (Nat.le_refl _) HB1.out hb)
  have hk0 : (0 : Int) ≤ (k : Int) := Int.natCast_nonneg _
  by_cases hlt : k < F.length
  rotate_left
  ·obtain rfl : k = F.length := by omega
   have E := Lib.hid (GOOD.out fun j hj => HAL.out j hj)
   clear hall hb
   go_wp2
   go_ret
   exact ⟨by rw [E.out]; rfl, HBP.out⟩
  have hk1 : (k : Int) < (F.length : Int) := by omega
  obtain ⟨b, off, y, rfl, hbl, ⟨c0, c1, c2⟩, hv⟩ := (H.out.below HBP.out).at hlt
  have P := Lib.hid (P1.out.below hb S1.out)
  have T1 := Lib.hid (show w.heap.size < wp.heap.size from Nat.lt_of_lt_of_le S1.out hb.size)
  have T4 := Lib.hid hbl
  have hwa := (Below.refl wp.heap.size wp).alloc (Nat.le_refl _) (.cells #[.int .i64 y.farm, .int .i64 y.day, .slice y.lp y.ln y.lc] 47)
  have ca := World.cell?_alloc_new wp #[.int .i64 y.farm, .int .i64 y.day, .slice y.lp y.ln y.lc] 47
  have HBX := Lib.hid (balloc (Nat.le_refl _) HBP.out (.cells #[.int .i64 y.farm, .int .i64 y.day, .slice y.lp y.ln y.lc] 47))
  have HWX := Lib.hid (balloc (Nat.le_refl _) hb (.cells #[.int .i64 y.farm, .int .i64 y.day, .slice y.lp y.ln y.lc] 47))
  have FM := Lib.hid (FO.out _ HBX.out.drew y F[k] ((hv.below hwa).below (Below.refl _ _).drew))
  have U1 := Lib.hid (show w.heap.size < (wp.alloc (.cells #[.int .i64 y.farm, .int .i64 y.day, .slice y.lp y.ln y.lc] 47)).heap.size by simp; have := T1.out; omega)
  have U3 := Lib.hid (show wp.heap.size < (wp.alloc (.cells #[.int .i64 y.farm, .int .i64 y.day, .slice y.lp y.ln y.lc] 47)).heap.size by simp)
  have U4 := Lib.hid (show b < (wp.alloc (.cells #[.int .i64 y.farm, .int .i64 y.day, .slice y.lp y.ln y.lc] 47)).heap.size by simp; have := T4.out; omega)
  have YF := Lib.hid hv.farm
  obtain ⟨bt, ebt⟩ : ∃ b, farmB l F[k] = b := ⟨_, rfl⟩
  rw [ebt] at FM
  have EB := Lib.hid ebt
  clear ebt hv hall
  cases bt
  ·have E := Lib.hid (BAD.out k hlt (farmAt_bad hlt EB.out))
   have KA := Lib.hid (show (wp.alloc (.cells #[.int .i64 y.farm, .int .i64 y.day, .slice y.lp y.ln y.lc] 47)).cell? ⟨w.heap.size, 0, none⟩ = some (.slice r.sp r.sn r.sc) ∧ (wp.alloc (.cells #[.int .i64 y.farm, .int .i64 y.day, .slice y.lp y.ln y.lc] 47)).cell? ⟨w.heap.size, 1, none⟩ = some (.slice r.tp r.tn r.tc) ∧ (wp.alloc (.cells #[.int .i64 y.farm, .int .i64 y.day, .slice y.lp y.ln y.lc] 47)).cell? ⟨w.heap.size, 2, none⟩ = some (.int .i64 r.due) ∧ (wp.alloc (.cells #[.int .i64 y.farm, .int .i64 y.day, .slice y.lp y.ln y.lc] 47)).cell? ⟨w.heap.size, 3, none⟩ = some (.int .i64 r.last) ∧ (wp.alloc (.cells #[.int .i64 y.farm, .int .i64 y.day, .slice y.lp y.ln y.lc] 47)).cell? ⟨w.heap.size, 4, none⟩ = some (.int .i64 r.mille) ∧ (wp.alloc (.cells #[.int .i64 y.farm, .int .i64 y.day, .slice y.lp y.ln y.lc] 47)).cell? ⟨w.heap.size, 5, none⟩ = some (.slice r.gp r.gn r.gc) ∧ (wp.alloc (.cells #[.int .i64 y.farm, .int .i64 y.day, .slice y.lp y.ln y.lc] 47)).cell? ⟨w.heap.size, 6, none⟩ = some (.int .i64 r.cap) ∧ (wp.alloc (.cells #[.int .i64 y.farm, .int .i64 y.day, .slice y.lp y.ln y.lc] 47)).cell? ⟨w.heap.size, 7, none⟩ = some (.int .i64 r.env) ∧ (wp.alloc (.cells #[.int .i64 y.farm, .int .i64 y.day, .slice y.lp y.ln y.lc] 47)).cell? ⟨w.heap.size, 8, none⟩ = some (.int .i64 r.unit) ∧ (wp.alloc (.cells #[.int .i64 y.farm, .int .i64 y.day, .slice y.lp y.ln y.lc] 47)).cell? ⟨w.heap.size, 9, none⟩ = some (.int .i64 r.width) ∧ (wp.alloc (.cells #[.int .i64 y.farm, .int .i64 y.day, .slice y.lp y.ln y.lc] 47)).cell? ⟨wp.heap.size, 0, none⟩ = some (.int .i64 y.farm) ∧ (wp.alloc (.cells #[.int .i64 y.farm, .int .i64 y.day, .slice y.lp y.ln y.lc] 47)).cell? ⟨wp.heap.size, 1, none⟩ = some (.int .i64 y.day) ∧ (wp.alloc (.cells #[.int .i64 y.farm, .int .i64 y.day, .slice y.lp y.ln y.lc] 47)).cell? ⟨wp.heap.size, 2, none⟩ = some (.slice y.lp y.ln y.lc) from ⟨(hwa.cell (p := ⟨w.heap.size, 0, none⟩) T1.out).trans P.out.c0, (hwa.cell (p := ⟨w.heap.size, 1, none⟩) T1.out).trans P.out.c1, (hwa.cell (p := ⟨w.heap.size, 2, none⟩) T1.out).trans P.out.c2, (hwa.cell (p := ⟨w.heap.size, 3, none⟩) T1.out).trans P.out.c3, (hwa.cell (p := ⟨w.heap.size, 4, none⟩) T1.out).trans P.out.c4, (hwa.cell (p := ⟨w.heap.size, 5, none⟩) T1.out).trans P.out.c5, (hwa.cell (p := ⟨w.heap.size, 6, none⟩) T1.out).trans P.out.c6, (hwa.cell (p := ⟨w.heap.size, 7, none⟩) T1.out).trans P.out.c7, (hwa.cell (p := ⟨w.heap.size, 8, none⟩) T1.out).trans P.out.c8, (hwa.cell (p := ⟨w.heap.size, 9, none⟩) T1.out).trans P.out.c9, ca 0, ca 1, ca 2⟩)
   have KD := Lib.hid (show (wp.alloc (.cells #[.int .i64 y.farm, .int .i64 y.day, .slice y.lp y.ln y.lc] 47)).drew.cell? ⟨w.heap.size, 0, none⟩ = some (.slice r.sp r.sn r.sc) ∧ (wp.alloc (.cells #[.int .i64 y.farm, .int .i64 y.day, .slice y.lp y.ln y.lc] 47)).drew.cell? ⟨w.heap.size, 1, none⟩ = some (.slice r.tp r.tn r.tc) ∧ (wp.alloc (.cells #[.int .i64 y.farm, .int .i64 y.day, .slice y.lp y.ln y.lc] 47)).drew.cell? ⟨w.heap.size, 2, none⟩ = some (.int .i64 r.due) ∧ (wp.alloc (.cells #[.int .i64 y.farm, .int .i64 y.day, .slice y.lp y.ln y.lc] 47)).drew.cell? ⟨w.heap.size, 3, none⟩ = some (.int .i64 r.last) ∧ (wp.alloc (.cells #[.int .i64 y.farm, .int .i64 y.day, .slice y.lp y.ln y.lc] 47)).drew.cell? ⟨w.heap.size, 4, none⟩ = some (.int .i64 r.mille) ∧ (wp.alloc (.cells #[.int .i64 y.farm, .int .i64 y.day, .slice y.lp y.ln y.lc] 47)).drew.cell? ⟨w.heap.size, 5, none⟩ = some (.slice r.gp r.gn r.gc) ∧ (wp.alloc (.cells #[.int .i64 y.farm, .int .i64 y.day, .slice y.lp y.ln y.lc] 47)).drew.cell? ⟨w.heap.size, 6, none⟩ = some (.int .i64 r.cap) ∧ (wp.alloc (.cells #[.int .i64 y.farm, .int .i64 y.day, .slice y.lp y.ln y.lc] 47)).drew.cell? ⟨w.heap.size, 7, none⟩ = some (.int .i64 r.env) ∧ (wp.alloc (.cells #[.int .i64 y.farm, .int .i64 y.day, .slice y.lp y.ln y.lc] 47)).drew.cell? ⟨w.heap.size, 8, none⟩ = some (.int .i64 r.unit) ∧ (wp.alloc (.cells #[.int .i64 y.farm, .int .i64 y.day, .slice y.lp y.ln y.lc] 47)).drew.cell? ⟨w.heap.size, 9, none⟩ = some (.int .i64 r.width) ∧ (wp.alloc (.cells #[.int .i64 y.farm, .int .i64 y.day, .slice y.lp y.ln y.lc] 47)).drew.cell? ⟨wp.heap.size, 0, none⟩ = some (.int .i64 y.farm) ∧ (wp.alloc (.cells #[.int .i64 y.farm, .int .i64 y.day, .slice y.lp y.ln y.lc] 47)).drew.cell? ⟨wp.heap.size, 1, none⟩ = some (.int .i64 y.day) ∧ (wp.alloc (.cells #[.int .i64 y.farm, .int .i64 y.day, .slice y.lp y.ln y.lc] 47)).drew.cell? ⟨wp.heap.size, 2, none⟩ = some (.slice y.lp y.ln y.lc) from KA.out)
   clear hwa ca hb hbl
   go_wp2_with fail
   refine wp_region_held_drew (S := fun w' => w'.cell? ⟨w.heap.size, 0, none⟩ = some (.slice r.sp r.sn r.sc) ∧ w'.cell? ⟨w.heap.size, 1, none⟩ = some (.slice r.tp r.tn r.tc) ∧ w'.cell? ⟨w.heap.size, 2, none⟩ = some (.int .i64 r.due) ∧ w'.cell? ⟨w.heap.size, 3, none⟩ = some (.int .i64 r.last) ∧ w'.cell? ⟨w.heap.size, 4, none⟩ = some (.int .i64 r.mille) ∧ w'.cell? ⟨w.heap.size, 5, none⟩ = some (.slice r.gp r.gn r.gc) ∧ w'.cell? ⟨w.heap.size, 6, none⟩ = some (.int .i64 r.cap) ∧ w'.cell? ⟨w.heap.size, 7, none⟩ = some (.int .i64 r.env) ∧ w'.cell? ⟨w.heap.size, 8, none⟩ = some (.int .i64 r.unit) ∧ w'.cell? ⟨w.heap.size, 9, none⟩ = some (.int .i64 r.width) ∧ w'.cell? ⟨wp.heap.size, 0, none⟩ = some (.int .i64 y.farm) ∧ w'.cell? ⟨wp.heap.size, 1, none⟩ = some (.int .i64 y.day) ∧ w'.cell? ⟨wp.heap.size, 2, none⟩ = some (.slice y.lp y.ln y.lc)) (by kernel_rfl) KD.out (fun hHeld => ?_)
   refine wpAnyH_take (i := 0) (oi := ⟨some 23, _, _, _, _, _⟩) (v := ?va0_0) rfl (by kernel_rfl) (by kernel_rfl) (by kernel_rfl) (fun _ _ _ h => h) (Or.inl ⟨by kernel_rfl, ?ya0_0⟩) (by assumption) ?ra0_0
   case ya0_0 =>
    intro W0 hSw
    (try dsimp only at hSw)
    go_simp
    try with_reducible rfl
   simp only [Act.put, List.setIfInBounds_toArray, List.set_cons_zero, List.set_cons_succ]
   refine wpAnyH_take (i := 1) (oi := ⟨some 24, _, _, _, _, _⟩) (v := ?va0_1) rfl (by kernel_rfl) (by kernel_rfl) (by kernel_rfl) (fun _ _ _ h => h) (Or.inl ⟨by kernel_rfl, ?ya0_1⟩) (by assumption) ?ra0_1
   case ya0_1 =>
    intro W0 hSw
    (try dsimp only at hSw)
    go_simp
    try with_reducible rfl
   simp only [Act.put, List.setIfInBounds_toArray, List.set_cons_zero, List.set_cons_succ]
   refine wpAnyH_ready (rs := [2]) (by kernel_rfl) (by simp) ?_
   refine AllReadyH.cons (o := ⟨some 25, _, _, _, _, _⟩) rfl (fun K hK => ?_) AllReadyH.nil
   go_simp
   (with_reducible refine Calls.mono FM.out ?_)
   rintro e w5 ⟨rfl, hb5⟩
   have HB5 := Lib.hid (bstep (Nat.le_refl _) HBX.out.drew hb5)
   have HC5 := Lib.hid (bstep (Nat.le_refl _) HWX.out.drew hb5)
   have K5 := Lib.hid (show w5.cell? ⟨w.heap.size, 0, none⟩ = some (.slice r.sp r.sn r.sc) ∧ w5.cell? ⟨w.heap.size, 1, none⟩ = some (.slice r.tp r.tn r.tc) ∧ w5.cell? ⟨w.heap.size, 2, none⟩ = some (.int .i64 r.due) ∧ w5.cell? ⟨w.heap.size, 3, none⟩ = some (.int .i64 r.last) ∧ w5.cell? ⟨w.heap.size, 4, none⟩ = some (.int .i64 r.mille) ∧ w5.cell? ⟨w.heap.size, 5, none⟩ = some (.slice r.gp r.gn r.gc) ∧ w5.cell? ⟨w.heap.size, 6, none⟩ = some (.int .i64 r.cap) ∧ w5.cell? ⟨w.heap.size, 7, none⟩ = some (.int .i64 r.env) ∧ w5.cell? ⟨w.heap.size, 8, none⟩ = some (.int .i64 r.unit) ∧ w5.cell? ⟨w.heap.size, 9, none⟩ = some (.int .i64 r.width) ∧ w5.cell? ⟨wp.heap.size, 0, none⟩ = some (.int .i64 y.farm) ∧ w5.cell? ⟨wp.heap.size, 1, none⟩ = some (.int .i64 y.day) ∧ w5.cell? ⟨wp.heap.size, 2, none⟩ = some (.slice y.lp y.ln y.lc) from ⟨(hb5.cell (p := ⟨w.heap.size, 0, none⟩) U1.out).trans KA.out.1, (hb5.cell (p := ⟨w.heap.size, 1, none⟩) U1.out).trans KA.out.2.1, (hb5.cell (p := ⟨w.heap.size, 2, none⟩) U1.out).trans KA.out.2.2.1, (hb5.cell (p := ⟨w.heap.size, 3, none⟩) U1.out).trans KA.out.2.2.2.1, (hb5.cell (p := ⟨w.heap.size, 4, none⟩) U1.out).trans KA.out.2.2.2.2.1, (hb5.cell (p := ⟨w.heap.size, 5, none⟩) U1.out).trans KA.out.2.2.2.2.2.1, (hb5.cell (p := ⟨w.heap.size, 6, none⟩) U1.out).trans KA.out.2.2.2.2.2.2.1, (hb5.cell (p := ⟨w.heap.size, 7, none⟩) U1.out).trans KA.out.2.2.2.2.2.2.2.1, (hb5.cell (p := ⟨w.heap.size, 8, none⟩) U1.out).trans KA.out.2.2.2.2.2.2.2.2.1, (hb5.cell (p := ⟨w.heap.size, 9, none⟩) U1.out).trans KA.out.2.2.2.2.2.2.2.2.2.1, (hb5.cell (p := ⟨wp.heap.size, 0, none⟩) U3.out).trans KA.out.2.2.2.2.2.2.2.2.2.2.1, (hb5.cell (p := ⟨wp.heap.size, 1, none⟩) U3.out).trans KA.out.2.2.2.2.2.2.2.2.2.2.2.1, (hb5.cell (p := ⟨wp.heap.size, 2, none⟩) U3.out).trans KA.out.2.2.2.2.2.2.2.2.2.2.2.2⟩)
   clear hb5
   go_wp2_with fail
   refine hK.out _ _ ?hSa0_2 (fun hHeld2 => ?_)
   case hSa0_2 => exact K5.out
   clear hK K
   refine wpAnyH_take (i := 3) (oi := ⟨some 26, _, _, _, _, _⟩) (v := ?va0_3) rfl (by kernel_rfl) (by kernel_rfl) (by kernel_rfl) (fun _ _ _ h => h) (Or.inl ⟨by kernel_rfl, ?ya0_3⟩) (by assumption) ?ra0_3
   case ya0_3 =>
    intro W0 hSw
    (try dsimp only at hSw)
    go_simp
    try with_reducible rfl
   simp only [Act.put, List.setIfInBounds_toArray, List.set_cons_zero, List.set_cons_succ]
   refine wpAnyH_take (i := 4) (oi := ⟨some 27, _, _, _, _, _⟩) (v := ?va0_4) rfl (by kernel_rfl) (by kernel_rfl) (by kernel_rfl) (fun _ _ _ h => h) (Or.inl ⟨by kernel_rfl, ?ya0_4⟩) (by assumption) ?ra0_4
   case ya0_4 =>
    intro W0 hSw
    (try dsimp only at hSw)
    go_simp
    try with_reducible rfl
   simp only [Act.put, List.setIfInBounds_toArray, List.set_cons_zero, List.set_cons_succ]
   refine wpAnyH_take (i := 5) (oi := ⟨some 28, _, _, _, _, _⟩) (v := undef) rfl (by kernel_rfl) (by kernel_rfl) (by kernel_rfl) (fun _ _ _ h => h) (Or.inr ⟨by kernel_rfl, rfl⟩) (by assumption) ?_
   refine wpAnyH_take (i := 6) (oi := ⟨some 29, _, _, _, _, _⟩) (v := undef) rfl (by kernel_rfl) (by kernel_rfl) (by kernel_rfl) (fun _ _ _ h => h) (Or.inr ⟨by kernel_rfl, rfl⟩) (by assumption) ?_
   refine wpAnyH_take (i := 7) (oi := ⟨some 30, _, _, _, _, _⟩) (v := undef) rfl (by kernel_rfl) (by kernel_rfl) (by kernel_rfl) (fun _ _ _ h => h) (Or.inr ⟨by kernel_rfl, rfl⟩) (by assumption) ?_
   refine wpAnyH_take (i := 8) (oi := ⟨some 31, _, _, _, _, _⟩) (v := undef) rfl (by kernel_rfl) (by kernel_rfl) (by kernel_rfl) (fun _ _ _ h => h) (Or.inr ⟨by kernel_rfl, rfl⟩) (by assumption) ?_
   refine wpAnyH_take (i := 9) (oi := ⟨some 32, _, _, _, _, _⟩) (v := undef) rfl (by kernel_rfl) (by kernel_rfl) (by kernel_rfl) (fun _ _ _ h => h) (Or.inr ⟨by kernel_rfl, rfl⟩) (by assumption) ?_
   refine wpAnyH_take (i := 10) (oi := ⟨some 33, _, _, _, _, _⟩) (v := undef) rfl (by kernel_rfl) (by kernel_rfl) (by kernel_rfl) (fun _ _ _ h => h) (Or.inr ⟨by kernel_rfl, rfl⟩) (by assumption) ?_
   refine wpAnyH_take (i := 11) (oi := ⟨some 34, _, _, _, _, _⟩) (v := undef) rfl (by kernel_rfl) (by kernel_rfl) (by kernel_rfl) (fun _ _ _ h => h) (Or.inr ⟨by kernel_rfl, rfl⟩) (by assumption) ?_
   refine wpAnyH_take (i := 12) (oi := ⟨some 35, _, _, _, _, _⟩) (v := undef) rfl (by kernel_rfl) (by kernel_rfl) (by kernel_rfl) (fun _ _ _ h => h) (Or.inr ⟨by kernel_rfl, rfl⟩) (by assumption) ?_
   refine wpAnyH_take (i := 13) (oi := ⟨some 36, _, _, _, _, _⟩) (v := undef) rfl (by kernel_rfl) (by kernel_rfl) (by kernel_rfl) (fun _ _ _ h => h) (Or.inr ⟨by kernel_rfl, rfl⟩) (by assumption) ?_
   refine wpAnyH_take (i := 14) (oi := ⟨some 37, _, _, _, _, _⟩) (v := undef) rfl (by kernel_rfl) (by kernel_rfl) (by kernel_rfl) (fun _ _ _ h => h) (Or.inr ⟨by kernel_rfl, rfl⟩) (by assumption) ?_
   refine wpAnyH_take (i := 15) (oi := ⟨some 38, _, _, _, _, _⟩) (v := undef) rfl (by kernel_rfl) (by kernel_rfl) (by kernel_rfl) (fun _ _ _ h => h) (Or.inr ⟨by kernel_rfl, rfl⟩) (by assumption) ?_
   refine wpAnyH_take (i := 16) (oi := ⟨some 39, _, _, _, _, _⟩) (v := undef) rfl (by kernel_rfl) (by kernel_rfl) (by kernel_rfl) (fun _ _ _ h => h) (Or.inr ⟨by kernel_rfl, rfl⟩) (by assumption) ?_
   refine wpAnyH_take (i := 17) (oi := ⟨some 40, _, _, _, _, _⟩) (v := undef) rfl (by kernel_rfl) (by kernel_rfl) (by kernel_rfl) (fun _ _ _ h => h) (Or.inr ⟨by kernel_rfl, rfl⟩) (by assumption) ?_
   simp only [Act.put, List.setIfInBounds_toArray, List.set_cons_zero, List.set_cons_succ]
   refine wpAnyH_take (i := 18) (oi := ⟨some 41, _, _, _, _, _⟩) (v := ?va0_18) rfl (by kernel_rfl) (by kernel_rfl) (by kernel_rfl) (fun _ _ _ h => h) (Or.inl ⟨by kernel_rfl, ?ya0_18⟩) (by assumption) ?ra0_18
   case ya0_18 =>
    intro W0 hSw
    (try dsimp only at hSw)
    go_simp
    try with_reducible rfl
   refine wpAnyH_done (by kernel_rfl) ?_ _
   go_wp2
   go_ret
   exact ⟨by rw [E.out]; rfl, HB5.out⟩
  ·rcases Nat.eq_zero_or_pos k with hz | hpos
   ·subst hz
    have OK := Lib.hid (show farmAt l F 0 = true from by rw [farmAt_zero hlt, EB.out])
    have KA := Lib.hid (show (wp.alloc (.cells #[.int .i64 y.farm, .int .i64 y.day, .slice y.lp y.ln y.lc] 47)).cell? ⟨w.heap.size, 0, none⟩ = some (.slice r.sp r.sn r.sc) ∧ (wp.alloc (.cells #[.int .i64 y.farm, .int .i64 y.day, .slice y.lp y.ln y.lc] 47)).cell? ⟨w.heap.size, 1, none⟩ = some (.slice r.tp r.tn r.tc) ∧ (wp.alloc (.cells #[.int .i64 y.farm, .int .i64 y.day, .slice y.lp y.ln y.lc] 47)).cell? ⟨w.heap.size, 2, none⟩ = some (.int .i64 r.due) ∧ (wp.alloc (.cells #[.int .i64 y.farm, .int .i64 y.day, .slice y.lp y.ln y.lc] 47)).cell? ⟨w.heap.size, 3, none⟩ = some (.int .i64 r.last) ∧ (wp.alloc (.cells #[.int .i64 y.farm, .int .i64 y.day, .slice y.lp y.ln y.lc] 47)).cell? ⟨w.heap.size, 4, none⟩ = some (.int .i64 r.mille) ∧ (wp.alloc (.cells #[.int .i64 y.farm, .int .i64 y.day, .slice y.lp y.ln y.lc] 47)).cell? ⟨w.heap.size, 5, none⟩ = some (.slice r.gp r.gn r.gc) ∧ (wp.alloc (.cells #[.int .i64 y.farm, .int .i64 y.day, .slice y.lp y.ln y.lc] 47)).cell? ⟨w.heap.size, 6, none⟩ = some (.int .i64 r.cap) ∧ (wp.alloc (.cells #[.int .i64 y.farm, .int .i64 y.day, .slice y.lp y.ln y.lc] 47)).cell? ⟨w.heap.size, 7, none⟩ = some (.int .i64 r.env) ∧ (wp.alloc (.cells #[.int .i64 y.farm, .int .i64 y.day, .slice y.lp y.ln y.lc] 47)).cell? ⟨w.heap.size, 8, none⟩ = some (.int .i64 r.unit) ∧ (wp.alloc (.cells #[.int .i64 y.farm, .int .i64 y.day, .slice y.lp y.ln y.lc] 47)).cell? ⟨w.heap.size, 9, none⟩ = some (.int .i64 r.width) ∧ (wp.alloc (.cells #[.int .i64 y.farm, .int .i64 y.day, .slice y.lp y.ln y.lc] 47)).cell? ⟨wp.heap.size, 0, none⟩ = some (.int .i64 y.farm) ∧ (wp.alloc (.cells #[.int .i64 y.farm, .int .i64 y.day, .slice y.lp y.ln y.lc] 47)).cell? ⟨wp.heap.size, 1, none⟩ = some (.int .i64 y.day) ∧ (wp.alloc (.cells #[.int .i64 y.farm, .int .i64 y.day, .slice y.lp y.ln y.lc] 47)).cell? ⟨wp.heap.size, 2, none⟩ = some (.slice y.lp y.ln y.lc) from ⟨(hwa.cell (p := ⟨w.heap.size, 0, none⟩) T1.out).trans P.out.c0, (hwa.cell (p := ⟨w.heap.size, 1, none⟩) T1.out).trans P.out.c1, (hwa.cell (p := ⟨w.heap.size, 2, none⟩) T1.out).trans P.out.c2, (hwa.cell (p := ⟨w.heap.size, 3, none⟩) T1.out).trans P.out.c3, (hwa.cell (p := ⟨w.heap.size, 4, none⟩) T1.out).trans P.out.c4, (hwa.cell (p := ⟨w.heap.size, 5, none⟩) T1.out).trans P.out.c5, (hwa.cell (p := ⟨w.heap.size, 6, none⟩) T1.out).trans P.out.c6, (hwa.cell (p := ⟨w.heap.size, 7, none⟩) T1.out).trans P.out.c7, (hwa.cell (p := ⟨w.heap.size, 8, none⟩) T1.out).trans P.out.c8, (hwa.cell (p := ⟨w.heap.size, 9, none⟩) T1.out).trans P.out.c9, ca 0, ca 1, ca 2⟩)
    have KD := Lib.hid (show (wp.alloc (.cells #[.int .i64 y.farm, .int .i64 y.day, .slice y.lp y.ln y.lc] 47)).drew.cell? ⟨w.heap.size, 0, none⟩ = some (.slice r.sp r.sn r.sc) ∧ (wp.alloc (.cells #[.int .i64 y.farm, .int .i64 y.day, .slice y.lp y.ln y.lc] 47)).drew.cell? ⟨w.heap.size, 1, none⟩ = some (.slice r.tp r.tn r.tc) ∧ (wp.alloc (.cells #[.int .i64 y.farm, .int .i64 y.day, .slice y.lp y.ln y.lc] 47)).drew.cell? ⟨w.heap.size, 2, none⟩ = some (.int .i64 r.due) ∧ (wp.alloc (.cells #[.int .i64 y.farm, .int .i64 y.day, .slice y.lp y.ln y.lc] 47)).drew.cell? ⟨w.heap.size, 3, none⟩ = some (.int .i64 r.last) ∧ (wp.alloc (.cells #[.int .i64 y.farm, .int .i64 y.day, .slice y.lp y.ln y.lc] 47)).drew.cell? ⟨w.heap.size, 4, none⟩ = some (.int .i64 r.mille) ∧ (wp.alloc (.cells #[.int .i64 y.farm, .int .i64 y.day, .slice y.lp y.ln y.lc] 47)).drew.cell? ⟨w.heap.size, 5, none⟩ = some (.slice r.gp r.gn r.gc) ∧ (wp.alloc (.cells #[.int .i64 y.farm, .int .i64 y.day, .slice y.lp y.ln y.lc] 47)).drew.cell? ⟨w.heap.size, 6, none⟩ = some (.int .i64 r.cap) ∧ (wp.alloc (.cells #[.int .i64 y.farm, .int .i64 y.day, .slice y.lp y.ln y.lc] 47)).drew.cell? ⟨w.heap.size, 7, none⟩ = some (.int .i64 r.env) ∧ (wp.alloc (.cells #[.int .i64 y.farm, .int .i64 y.day, .slice y.lp y.ln y.lc] 47)).drew.cell? ⟨w.heap.size, 8, none⟩ = some (.int .i64 r.unit) ∧ (wp.alloc (.cells #[.int .i64 y.farm, .int .i64 y.day, .slice y.lp y.ln y.lc] 47)).drew.cell? ⟨w.heap.size, 9, none⟩ = some (.int .i64 r.width) ∧ (wp.alloc (.cells #[.int .i64 y.farm, .int .i64 y.day, .slice y.lp y.ln y.lc] 47)).drew.cell? ⟨wp.heap.size, 0, none⟩ = some (.int .i64 y.farm) ∧ (wp.alloc (.cells #[.int .i64 y.farm, .int .i64 y.day, .slice y.lp y.ln y.lc] 47)).drew.cell? ⟨wp.heap.size, 1, none⟩ = some (.int .i64 y.day) ∧ (wp.alloc (.cells #[.int .i64 y.farm, .int .i64 y.day, .slice y.lp y.ln y.lc] 47)).drew.cell? ⟨wp.heap.size, 2, none⟩ = some (.slice y.lp y.ln y.lc) from KA.out)
    rw [show ((0 : Nat) : Int) = 0 from rfl]
    rw [Nat.zero_mul, Nat.add_zero] at c0 c1 c2
    clear hwa ca hb hbl
    go_wp2_with fail
    refine wp_region_held_drew (S := fun w' => w'.cell? ⟨w.heap.size, 0, none⟩ = some (.slice r.sp r.sn r.sc) ∧ w'.cell? ⟨w.heap.size, 1, none⟩ = some (.slice r.tp r.tn r.tc) ∧ w'.cell? ⟨w.heap.size, 2, none⟩ = some (.int .i64 r.due) ∧ w'.cell? ⟨w.heap.size, 3, none⟩ = some (.int .i64 r.last) ∧ w'.cell? ⟨w.heap.size, 4, none⟩ = some (.int .i64 r.mille) ∧ w'.cell? ⟨w.heap.size, 5, none⟩ = some (.slice r.gp r.gn r.gc) ∧ w'.cell? ⟨w.heap.size, 6, none⟩ = some (.int .i64 r.cap) ∧ w'.cell? ⟨w.heap.size, 7, none⟩ = some (.int .i64 r.env) ∧ w'.cell? ⟨w.heap.size, 8, none⟩ = some (.int .i64 r.unit) ∧ w'.cell? ⟨w.heap.size, 9, none⟩ = some (.int .i64 r.width) ∧ w'.cell? ⟨wp.heap.size, 0, none⟩ = some (.int .i64 y.farm) ∧ w'.cell? ⟨wp.heap.size, 1, none⟩ = some (.int .i64 y.day) ∧ w'.cell? ⟨wp.heap.size, 2, none⟩ = some (.slice y.lp y.ln y.lc)) (by kernel_rfl) KD.out (fun hHeld => ?_)
    refine wpAnyH_take (i := 0) (oi := ⟨some 23, _, _, _, _, _⟩) (v := ?vb0_0) rfl (by kernel_rfl) (by kernel_rfl) (by kernel_rfl) (fun _ _ _ h => h) (Or.inl ⟨by kernel_rfl, ?yb0_0⟩) (by assumption) ?rb0_0
    case yb0_0 =>
     intro W0 hSw
     (try dsimp only at hSw)
     go_simp
     try with_reducible rfl
    simp only [Act.put, List.setIfInBounds_toArray, List.set_cons_zero, List.set_cons_succ]
    refine wpAnyH_take (i := 1) (oi := ⟨some 24, _, _, _, _, _⟩) (v := ?vb0_1) rfl (by kernel_rfl) (by kernel_rfl) (by kernel_rfl) (fun _ _ _ h => h) (Or.inl ⟨by kernel_rfl, ?yb0_1⟩) (by assumption) ?rb0_1
    case yb0_1 =>
     intro W0 hSw
     (try dsimp only at hSw)
     go_simp
     try with_reducible rfl
    simp only [Act.put, List.setIfInBounds_toArray, List.set_cons_zero, List.set_cons_succ]
    refine wpAnyH_ready (rs := [2]) (by kernel_rfl) (by simp) ?_
    refine AllReadyH.cons (o := ⟨some 25, _, _, _, _, _⟩) rfl (fun K hK => ?_) AllReadyH.nil
    go_simp
    (with_reducible refine Calls.mono FM.out ?_)
    rintro e w5 ⟨rfl, hb5⟩
    have HB5 := Lib.hid (bstep (Nat.le_refl _) HBX.out.drew hb5)
    have HC5 := Lib.hid (bstep (Nat.le_refl _) HWX.out.drew hb5)
    have K5 := Lib.hid (show w5.cell? ⟨w.heap.size, 0, none⟩ = some (.slice r.sp r.sn r.sc) ∧ w5.cell? ⟨w.heap.size, 1, none⟩ = some (.slice r.tp r.tn r.tc) ∧ w5.cell? ⟨w.heap.size, 2, none⟩ = some (.int .i64 r.due) ∧ w5.cell? ⟨w.heap.size, 3, none⟩ = some (.int .i64 r.last) ∧ w5.cell? ⟨w.heap.size, 4, none⟩ = some (.int .i64 r.mille) ∧ w5.cell? ⟨w.heap.size, 5, none⟩ = some (.slice r.gp r.gn r.gc) ∧ w5.cell? ⟨w.heap.size, 6, none⟩ = some (.int .i64 r.cap) ∧ w5.cell? ⟨w.heap.size, 7, none⟩ = some (.int .i64 r.env) ∧ w5.cell? ⟨w.heap.size, 8, none⟩ = some (.int .i64 r.unit) ∧ w5.cell? ⟨w.heap.size, 9, none⟩ = some (.int .i64 r.width) ∧ w5.cell? ⟨wp.heap.size, 0, none⟩ = some (.int .i64 y.farm) ∧ w5.cell? ⟨wp.heap.size, 1, none⟩ = some (.int .i64 y.day) ∧ w5.cell? ⟨wp.heap.size, 2, none⟩ = some (.slice y.lp y.ln y.lc) from ⟨(hb5.cell (p := ⟨w.heap.size, 0, none⟩) U1.out).trans KA.out.1, (hb5.cell (p := ⟨w.heap.size, 1, none⟩) U1.out).trans KA.out.2.1, (hb5.cell (p := ⟨w.heap.size, 2, none⟩) U1.out).trans KA.out.2.2.1, (hb5.cell (p := ⟨w.heap.size, 3, none⟩) U1.out).trans KA.out.2.2.2.1, (hb5.cell (p := ⟨w.heap.size, 4, none⟩) U1.out).trans KA.out.2.2.2.2.1, (hb5.cell (p := ⟨w.heap.size, 5, none⟩) U1.out).trans KA.out.2.2.2.2.2.1, (hb5.cell (p := ⟨w.heap.size, 6, none⟩) U1.out).trans KA.out.2.2.2.2.2.2.1, (hb5.cell (p := ⟨w.heap.size, 7, none⟩) U1.out).trans KA.out.2.2.2.2.2.2.2.1, (hb5.cell (p := ⟨w.heap.size, 8, none⟩) U1.out).trans KA.out.2.2.2.2.2.2.2.2.1, (hb5.cell (p := ⟨w.heap.size, 9, none⟩) U1.out).trans KA.out.2.2.2.2.2.2.2.2.2.1, (hb5.cell (p := ⟨wp.heap.size, 0, none⟩) U3.out).trans KA.out.2.2.2.2.2.2.2.2.2.2.1, (hb5.cell (p := ⟨wp.heap.size, 1, none⟩) U3.out).trans KA.out.2.2.2.2.2.2.2.2.2.2.2.1, (hb5.cell (p := ⟨wp.heap.size, 2, none⟩) U3.out).trans KA.out.2.2.2.2.2.2.2.2.2.2.2.2⟩)
    clear hb5
    go_wp2_with fail
    refine hK.out _ _ ?hSb0_2 (fun hHeld2 => ?_)
    case hSb0_2 => exact K5.out
    clear hK K
    refine wpAnyH_take (i := 3) (oi := ⟨some 26, _, _, _, _, _⟩) (v := ?vb0_3) rfl (by kernel_rfl) (by kernel_rfl) (by kernel_rfl) (fun _ _ _ h => h) (Or.inl ⟨by kernel_rfl, ?yb0_3⟩) (by assumption) ?rb0_3
    case yb0_3 =>
     intro W0 hSw
     (try dsimp only at hSw)
     go_simp
     try with_reducible rfl
    simp only [Act.put, List.setIfInBounds_toArray, List.set_cons_zero, List.set_cons_succ]
    refine wpAnyH_take (i := 4) (oi := ⟨some 27, _, _, _, _, _⟩) (v := ?vb0_4) rfl (by kernel_rfl) (by kernel_rfl) (by kernel_rfl) (fun _ _ _ h => h) (Or.inl ⟨by kernel_rfl, ?yb0_4⟩) (by assumption) ?rb0_4
    case yb0_4 =>
     intro W0 hSw
     (try dsimp only at hSw)
     go_simp
     try with_reducible rfl
    simp only [Act.put, List.setIfInBounds_toArray, List.set_cons_zero, List.set_cons_succ]
    refine wpAnyH_take (i := 5) (oi := ⟨some 28, _, _, _, _, _⟩) (v := ?vb0_5) rfl (by kernel_rfl) (by kernel_rfl) (by kernel_rfl) (fun _ _ _ h => h) (Or.inl ⟨by kernel_rfl, ?yb0_5⟩) (by assumption) ?rb0_5
    case yb0_5 =>
     intro W0 hSw
     (try dsimp only at hSw)
     go_simp
     try with_reducible rfl
    simp only [Act.put, List.setIfInBounds_toArray, List.set_cons_zero, List.set_cons_succ]
    refine wpAnyH_take (i := 6) (oi := ⟨some 29, _, _, _, _, _⟩) (v := ?vb0_6) rfl (by kernel_rfl) (by kernel_rfl) (by kernel_rfl) (fun _ _ _ h => h) (Or.inl ⟨by kernel_rfl, ?yb0_6⟩) (by assumption) ?rb0_6
    case yb0_6 =>
     intro W0 hSw
     (try dsimp only at hSw)
     go_simp
     try with_reducible rfl
    simp only [Act.put, List.setIfInBounds_toArray, List.set_cons_zero, List.set_cons_succ]
    refine wpAnyH_take (i := 7) (oi := ⟨some 30, _, _, _, _, _⟩) (v := ?vb0_7) rfl (by kernel_rfl) (by kernel_rfl) (by kernel_rfl) (fun _ _ _ h => h) (Or.inl ⟨by kernel_rfl, ?yb0_7⟩) (by assumption) ?rb0_7
    case yb0_7 =>
     intro W0 hSw
     (try dsimp only at hSw)
     go_simp
     try with_reducible rfl
    simp only [Act.put, List.setIfInBounds_toArray, List.set_cons_zero, List.set_cons_succ]
    refine wpAnyH_take (i := 8) (oi := ⟨some 31, _, _, _, _, _⟩) (v := undef) rfl (by kernel_rfl) (by kernel_rfl) (by kernel_rfl) (fun _ _ _ h => h) (Or.inr ⟨by kernel_rfl, rfl⟩) (by assumption) ?_
    refine wpAnyH_take (i := 9) (oi := ⟨some 32, _, _, _, _, _⟩) (v := undef) rfl (by kernel_rfl) (by kernel_rfl) (by kernel_rfl) (fun _ _ _ h => h) (Or.inr ⟨by kernel_rfl, rfl⟩) (by assumption) ?_
    refine wpAnyH_take (i := 10) (oi := ⟨some 33, _, _, _, _, _⟩) (v := undef) rfl (by kernel_rfl) (by kernel_rfl) (by kernel_rfl) (fun _ _ _ h => h) (Or.inr ⟨by kernel_rfl, rfl⟩) (by assumption) ?_
    refine wpAnyH_take (i := 11) (oi := ⟨some 34, _, _, _, _, _⟩) (v := undef) rfl (by kernel_rfl) (by kernel_rfl) (by kernel_rfl) (fun _ _ _ h => h) (Or.inr ⟨by kernel_rfl, rfl⟩) (by assumption) ?_
    refine wpAnyH_take (i := 12) (oi := ⟨some 35, _, _, _, _, _⟩) (v := undef) rfl (by kernel_rfl) (by kernel_rfl) (by kernel_rfl) (fun _ _ _ h => h) (Or.inr ⟨by kernel_rfl, rfl⟩) (by assumption) ?_
    refine wpAnyH_take (i := 13) (oi := ⟨some 36, _, _, _, _, _⟩) (v := undef) rfl (by kernel_rfl) (by kernel_rfl) (by kernel_rfl) (fun _ _ _ h => h) (Or.inr ⟨by kernel_rfl, rfl⟩) (by assumption) ?_
    refine wpAnyH_take (i := 14) (oi := ⟨some 37, _, _, _, _, _⟩) (v := undef) rfl (by kernel_rfl) (by kernel_rfl) (by kernel_rfl) (fun _ _ _ h => h) (Or.inr ⟨by kernel_rfl, rfl⟩) (by assumption) ?_
    refine wpAnyH_take (i := 15) (oi := ⟨some 38, _, _, _, _, _⟩) (v := undef) rfl (by kernel_rfl) (by kernel_rfl) (by kernel_rfl) (fun _ _ _ h => h) (Or.inr ⟨by kernel_rfl, rfl⟩) (by assumption) ?_
    refine wpAnyH_take (i := 16) (oi := ⟨some 39, _, _, _, _, _⟩) (v := undef) rfl (by kernel_rfl) (by kernel_rfl) (by kernel_rfl) (fun _ _ _ h => h) (Or.inr ⟨by kernel_rfl, rfl⟩) (by assumption) ?_
    simp only [Act.put, List.setIfInBounds_toArray, List.set_cons_zero, List.set_cons_succ]
    refine wpAnyH_take (i := 17) (oi := ⟨some 40, _, _, _, _, _⟩) (v := ?vb0_17) rfl (by kernel_rfl) (by kernel_rfl) (by kernel_rfl) (fun _ _ _ h => h) (Or.inl ⟨by kernel_rfl, ?yb0_17⟩) (by assumption) ?rb0_17
    case yb0_17 =>
     intro W0 hSw
     (try dsimp only at hSw)
     go_simp
     try with_reducible rfl
    simp only [Act.put, List.setIfInBounds_toArray, List.set_cons_zero, List.set_cons_succ]
    refine wpAnyH_take (i := 18) (oi := ⟨some 41, _, _, _, _, _⟩) (v := ?vb0_18) rfl (by kernel_rfl) (by kernel_rfl) (by kernel_rfl) (fun _ _ _ h => h) (Or.inl ⟨by kernel_rfl, ?yb0_18⟩) (by assumption) ?rb0_18
    case yb0_18 =>
     intro W0 hSw
     (try dsimp only at hSw)
     go_simp
     try with_reducible rfl
    refine wpAnyH_done (by kernel_rfl) ?_ _
    go_wp2
    go_roundw
    case rel => exact ⟨1, by omega, by go_num, fun j hj => by
     obtain rfl : j = 0 := by omega
     exact OK.out, HC5.out⟩
    case measure => simp [intOf]; omega
   ·obtain ⟨m, hm⟩ : ∃ m, k = m + 1 := ⟨k - 1, by omega⟩
    have hm0 : (0 : Int) ≤ (m : Int) := Int.natCast_nonneg _
    have hm1 : (m : Int) < (F.length : Int) := by omega
    have hml : m < F.length := by omega
    have hkm : IntKind.i64.wrap ((k : Int) - 1) = (m : Int) := by rw [IntKind.wrap_i64]; omega
    have hkp2 : (0 : Int) < (k : Int) := by omega
    have HM := Lib.hid hm
    obtain ⟨b', off', y2, e2, -, ⟨m0, -, -⟩, hv2⟩ := (H.out.below HBP.out).at hml
    cases e2
    have YF2 := Lib.hid hv2.farm
    have KA := Lib.hid (show (wp.alloc (.cells #[.int .i64 y.farm, .int .i64 y.day, .slice y.lp y.ln y.lc] 47)).cell? ⟨w.heap.size, 0, none⟩ = some (.slice r.sp r.sn r.sc) ∧ (wp.alloc (.cells #[.int .i64 y.farm, .int .i64 y.day, .slice y.lp y.ln y.lc] 47)).cell? ⟨w.heap.size, 1, none⟩ = some (.slice r.tp r.tn r.tc) ∧ (wp.alloc (.cells #[.int .i64 y.farm, .int .i64 y.day, .slice y.lp y.ln y.lc] 47)).cell? ⟨w.heap.size, 2, none⟩ = some (.int .i64 r.due) ∧ (wp.alloc (.cells #[.int .i64 y.farm, .int .i64 y.day, .slice y.lp y.ln y.lc] 47)).cell? ⟨w.heap.size, 3, none⟩ = some (.int .i64 r.last) ∧ (wp.alloc (.cells #[.int .i64 y.farm, .int .i64 y.day, .slice y.lp y.ln y.lc] 47)).cell? ⟨w.heap.size, 4, none⟩ = some (.int .i64 r.mille) ∧ (wp.alloc (.cells #[.int .i64 y.farm, .int .i64 y.day, .slice y.lp y.ln y.lc] 47)).cell? ⟨w.heap.size, 5, none⟩ = some (.slice r.gp r.gn r.gc) ∧ (wp.alloc (.cells #[.int .i64 y.farm, .int .i64 y.day, .slice y.lp y.ln y.lc] 47)).cell? ⟨w.heap.size, 6, none⟩ = some (.int .i64 r.cap) ∧ (wp.alloc (.cells #[.int .i64 y.farm, .int .i64 y.day, .slice y.lp y.ln y.lc] 47)).cell? ⟨w.heap.size, 7, none⟩ = some (.int .i64 r.env) ∧ (wp.alloc (.cells #[.int .i64 y.farm, .int .i64 y.day, .slice y.lp y.ln y.lc] 47)).cell? ⟨w.heap.size, 8, none⟩ = some (.int .i64 r.unit) ∧ (wp.alloc (.cells #[.int .i64 y.farm, .int .i64 y.day, .slice y.lp y.ln y.lc] 47)).cell? ⟨w.heap.size, 9, none⟩ = some (.int .i64 r.width) ∧ (wp.alloc (.cells #[.int .i64 y.farm, .int .i64 y.day, .slice y.lp y.ln y.lc] 47)).cell? ⟨wp.heap.size, 0, none⟩ = some (.int .i64 y.farm) ∧ (wp.alloc (.cells #[.int .i64 y.farm, .int .i64 y.day, .slice y.lp y.ln y.lc] 47)).cell? ⟨wp.heap.size, 1, none⟩ = some (.int .i64 y.day) ∧ (wp.alloc (.cells #[.int .i64 y.farm, .int .i64 y.day, .slice y.lp y.ln y.lc] 47)).cell? ⟨wp.heap.size, 2, none⟩ = some (.slice y.lp y.ln y.lc) ∧ (wp.alloc (.cells #[.int .i64 y.farm, .int .i64 y.day, .slice y.lp y.ln y.lc] 47)).cell? ⟨b, off + m * 3, none⟩ = some (.int .i64 y2.farm) from ⟨(hwa.cell (p := ⟨w.heap.size, 0, none⟩) T1.out).trans P.out.c0, (hwa.cell (p := ⟨w.heap.size, 1, none⟩) T1.out).trans P.out.c1, (hwa.cell (p := ⟨w.heap.size, 2, none⟩) T1.out).trans P.out.c2, (hwa.cell (p := ⟨w.heap.size, 3, none⟩) T1.out).trans P.out.c3, (hwa.cell (p := ⟨w.heap.size, 4, none⟩) T1.out).trans P.out.c4, (hwa.cell (p := ⟨w.heap.size, 5, none⟩) T1.out).trans P.out.c5, (hwa.cell (p := ⟨w.heap.size, 6, none⟩) T1.out).trans P.out.c6, (hwa.cell (p := ⟨w.heap.size, 7, none⟩) T1.out).trans P.out.c7, (hwa.cell (p := ⟨w.heap.size, 8, none⟩) T1.out).trans P.out.c8, (hwa.cell (p := ⟨w.heap.size, 9, none⟩) T1.out).trans P.out.c9, ca 0, ca 1, ca 2, (hwa.cell (p := ⟨b, off + m * 3, none⟩) T4.out).trans m0⟩)
    have KD := Lib.hid (show (wp.alloc (.cells #[.int .i64 y.farm, .int .i64 y.day, .slice y.lp y.ln y.lc] 47)).drew.cell? ⟨w.heap.size, 0, none⟩ = some (.slice r.sp r.sn r.sc) ∧ (wp.alloc (.cells #[.int .i64 y.farm, .int .i64 y.day, .slice y.lp y.ln y.lc] 47)).drew.cell? ⟨w.heap.size, 1, none⟩ = some (.slice r.tp r.tn r.tc) ∧ (wp.alloc (.cells #[.int .i64 y.farm, .int .i64 y.day, .slice y.lp y.ln y.lc] 47)).drew.cell? ⟨w.heap.size, 2, none⟩ = some (.int .i64 r.due) ∧ (wp.alloc (.cells #[.int .i64 y.farm, .int .i64 y.day, .slice y.lp y.ln y.lc] 47)).drew.cell? ⟨w.heap.size, 3, none⟩ = some (.int .i64 r.last) ∧ (wp.alloc (.cells #[.int .i64 y.farm, .int .i64 y.day, .slice y.lp y.ln y.lc] 47)).drew.cell? ⟨w.heap.size, 4, none⟩ = some (.int .i64 r.mille) ∧ (wp.alloc (.cells #[.int .i64 y.farm, .int .i64 y.day, .slice y.lp y.ln y.lc] 47)).drew.cell? ⟨w.heap.size, 5, none⟩ = some (.slice r.gp r.gn r.gc) ∧ (wp.alloc (.cells #[.int .i64 y.farm, .int .i64 y.day, .slice y.lp y.ln y.lc] 47)).drew.cell? ⟨w.heap.size, 6, none⟩ = some (.int .i64 r.cap) ∧ (wp.alloc (.cells #[.int .i64 y.farm, .int .i64 y.day, .slice y.lp y.ln y.lc] 47)).drew.cell? ⟨w.heap.size, 7, none⟩ = some (.int .i64 r.env) ∧ (wp.alloc (.cells #[.int .i64 y.farm, .int .i64 y.day, .slice y.lp y.ln y.lc] 47)).drew.cell? ⟨w.heap.size, 8, none⟩ = some (.int .i64 r.unit) ∧ (wp.alloc (.cells #[.int .i64 y.farm, .int .i64 y.day, .slice y.lp y.ln y.lc] 47)).drew.cell? ⟨w.heap.size, 9, none⟩ = some (.int .i64 r.width) ∧ (wp.alloc (.cells #[.int .i64 y.farm, .int .i64 y.day, .slice y.lp y.ln y.lc] 47)).drew.cell? ⟨wp.heap.size, 0, none⟩ = some (.int .i64 y.farm) ∧ (wp.alloc (.cells #[.int .i64 y.farm, .int .i64 y.day, .slice y.lp y.ln y.lc] 47)).drew.cell? ⟨wp.heap.size, 1, none⟩ = some (.int .i64 y.day) ∧ (wp.alloc (.cells #[.int .i64 y.farm, .int .i64 y.day, .slice y.lp y.ln y.lc] 47)).drew.cell? ⟨wp.heap.size, 2, none⟩ = some (.slice y.lp y.ln y.lc) ∧ (wp.alloc (.cells #[.int .i64 y.farm, .int .i64 y.day, .slice y.lp y.ln y.lc] 47)).drew.cell? ⟨b, off + m * 3, none⟩ = some (.int .i64 y2.farm) from KA.out)
    have SUCC := Lib.hid (show farmAt l F k = decide (y2.farm < y.farm) from by
     subst hm
     rw [farmAt_succ hlt, EB.out, YF.out, YF2.out]
     rfl)
    clear hwa ca hb hbl hm m0 hv2
    by_cases hle : y.farm ≤ y2.farm
    ·have E := Lib.hid (BAD.out k hlt (by rw [SUCC.out]; simp; omega))
     have hle' : decide (y.farm ≤ y2.farm) = true := decide_eq_true hle
     clear hle
     go_wp2_with fail
     refine wp_region_held_drew (S := fun w' => w'.cell? ⟨w.heap.size, 0, none⟩ = some (.slice r.sp r.sn r.sc) ∧ w'.cell? ⟨w.heap.size, 1, none⟩ = some (.slice r.tp r.tn r.tc) ∧ w'.cell? ⟨w.heap.size, 2, none⟩ = some (.int .i64 r.due) ∧ w'.cell? ⟨w.heap.size, 3, none⟩ = some (.int .i64 r.last) ∧ w'.cell? ⟨w.heap.size, 4, none⟩ = some (.int .i64 r.mille) ∧ w'.cell? ⟨w.heap.size, 5, none⟩ = some (.slice r.gp r.gn r.gc) ∧ w'.cell? ⟨w.heap.size, 6, none⟩ = some (.int .i64 r.cap) ∧ w'.cell? ⟨w.heap.size, 7, none⟩ = some (.int .i64 r.env) ∧ w'.cell? ⟨w.heap.size, 8, none⟩ = some (.int .i64 r.unit) ∧ w'.cell? ⟨w.heap.size, 9, none⟩ = some (.int .i64 r.width) ∧ w'.cell? ⟨wp.heap.size, 0, none⟩ = some (.int .i64 y.farm) ∧ w'.cell? ⟨wp.heap.size, 1, none⟩ = some (.int .i64 y.day) ∧ w'.cell? ⟨wp.heap.size, 2, none⟩ = some (.slice y.lp y.ln y.lc) ∧ w'.cell? ⟨b, off + m * 3, none⟩ = some (.int .i64 y2.farm)) (by kernel_rfl) KD.out (fun hHeld => ?_)
     refine wpAnyH_take (i := 0) (oi := ⟨some 23, _, _, _, _, _⟩) (v := ?vc0_0) rfl (by kernel_rfl) (by kernel_rfl) (by kernel_rfl) (fun _ _ _ h => h) (Or.inl ⟨by kernel_rfl, ?yc0_0⟩) (by assumption) ?rc0_0
     case yc0_0 =>
      intro W0 hSw
      (try dsimp only at hSw)
      go_simp
      try with_reducible rfl
     simp only [Act.put, List.setIfInBounds_toArray, List.set_cons_zero, List.set_cons_succ]
     refine wpAnyH_take (i := 1) (oi := ⟨some 24, _, _, _, _, _⟩) (v := ?vc0_1) rfl (by kernel_rfl) (by kernel_rfl) (by kernel_rfl) (fun _ _ _ h => h) (Or.inl ⟨by kernel_rfl, ?yc0_1⟩) (by assumption) ?rc0_1
     case yc0_1 =>
      intro W0 hSw
      (try dsimp only at hSw)
      go_simp
      try with_reducible rfl
     simp only [Act.put, List.setIfInBounds_toArray, List.set_cons_zero, List.set_cons_succ]
     refine wpAnyH_ready (rs := [2]) (by kernel_rfl) (by simp) ?_
     refine AllReadyH.cons (o := ⟨some 25, _, _, _, _, _⟩) rfl (fun K hK => ?_) AllReadyH.nil
     go_simp
     (with_reducible refine Calls.mono FM.out ?_)
     rintro e w5 ⟨rfl, hb5⟩
     have HB5 := Lib.hid (bstep (Nat.le_refl _) HBX.out.drew hb5)
     have HC5 := Lib.hid (bstep (Nat.le_refl _) HWX.out.drew hb5)
     have K5 := Lib.hid (show w5.cell? ⟨w.heap.size, 0, none⟩ = some (.slice r.sp r.sn r.sc) ∧ w5.cell? ⟨w.heap.size, 1, none⟩ = some (.slice r.tp r.tn r.tc) ∧ w5.cell? ⟨w.heap.size, 2, none⟩ = some (.int .i64 r.due) ∧ w5.cell? ⟨w.heap.size, 3, none⟩ = some (.int .i64 r.last) ∧ w5.cell? ⟨w.heap.size, 4, none⟩ = some (.int .i64 r.mille) ∧ w5.cell? ⟨w.heap.size, 5, none⟩ = some (.slice r.gp r.gn r.gc) ∧ w5.cell? ⟨w.heap.size, 6, none⟩ = some (.int .i64 r.cap) ∧ w5.cell? ⟨w.heap.size, 7, none⟩ = some (.int .i64 r.env) ∧ w5.cell? ⟨w.heap.size, 8, none⟩ = some (.int .i64 r.unit) ∧ w5.cell? ⟨w.heap.size, 9, none⟩ = some (.int .i64 r.width) ∧ w5.cell? ⟨wp.heap.size, 0, none⟩ = some (.int .i64 y.farm) ∧ w5.cell? ⟨wp.heap.size, 1, none⟩ = some (.int .i64 y.day) ∧ w5.cell? ⟨wp.heap.size, 2, none⟩ = some (.slice y.lp y.ln y.lc) ∧ w5.cell? ⟨b, off + m * 3, none⟩ = some (.int .i64 y2.farm) from ⟨(hb5.cell (p := ⟨w.heap.size, 0, none⟩) U1.out).trans KA.out.1, (hb5.cell (p := ⟨w.heap.size, 1, none⟩) U1.out).trans KA.out.2.1, (hb5.cell (p := ⟨w.heap.size, 2, none⟩) U1.out).trans KA.out.2.2.1, (hb5.cell (p := ⟨w.heap.size, 3, none⟩) U1.out).trans KA.out.2.2.2.1, (hb5.cell (p := ⟨w.heap.size, 4, none⟩) U1.out).trans KA.out.2.2.2.2.1, (hb5.cell (p := ⟨w.heap.size, 5, none⟩) U1.out).trans KA.out.2.2.2.2.2.1, (hb5.cell (p := ⟨w.heap.size, 6, none⟩) U1.out).trans KA.out.2.2.2.2.2.2.1, (hb5.cell (p := ⟨w.heap.size, 7, none⟩) U1.out).trans KA.out.2.2.2.2.2.2.2.1, (hb5.cell (p := ⟨w.heap.size, 8, none⟩) U1.out).trans KA.out.2.2.2.2.2.2.2.2.1, (hb5.cell (p := ⟨w.heap.size, 9, none⟩) U1.out).trans KA.out.2.2.2.2.2.2.2.2.2.1, (hb5.cell (p := ⟨wp.heap.size, 0, none⟩) U3.out).trans KA.out.2.2.2.2.2.2.2.2.2.2.1, (hb5.cell (p := ⟨wp.heap.size, 1, none⟩) U3.out).trans KA.out.2.2.2.2.2.2.2.2.2.2.2.1, (hb5.cell (p := ⟨wp.heap.size, 2, none⟩) U3.out).trans KA.out.2.2.2.2.2.2.2.2.2.2.2.2.1, (hb5.cell (p := ⟨b, off + m * 3, none⟩) U4.out).trans KA.out.2.2.2.2.2.2.2.2.2.2.2.2.2⟩)
     clear hb5
     go_wp2_with fail
     refine hK.out _ _ ?hSc0_2 (fun hHeld2 => ?_)
     case hSc0_2 => exact K5.out
     clear hK K
     refine wpAnyH_take (i := 3) (oi := ⟨some 26, _, _, _, _, _⟩) (v := ?vc0_3) rfl (by kernel_rfl) (by kernel_rfl) (by kernel_rfl) (fun _ _ _ h => h) (Or.inl ⟨by kernel_rfl, ?yc0_3⟩) (by assumption) ?rc0_3
     case yc0_3 =>
      intro W0 hSw
      (try dsimp only at hSw)
      go_simp
      try with_reducible rfl
     simp only [Act.put, List.setIfInBounds_toArray, List.set_cons_zero, List.set_cons_succ]
     refine wpAnyH_take (i := 4) (oi := ⟨some 27, _, _, _, _, _⟩) (v := ?vc0_4) rfl (by kernel_rfl) (by kernel_rfl) (by kernel_rfl) (fun _ _ _ h => h) (Or.inl ⟨by kernel_rfl, ?yc0_4⟩) (by assumption) ?rc0_4
     case yc0_4 =>
      intro W0 hSw
      (try dsimp only at hSw)
      go_simp
      try with_reducible rfl
     simp only [Act.put, List.setIfInBounds_toArray, List.set_cons_zero, List.set_cons_succ]
     refine wpAnyH_take (i := 5) (oi := ⟨some 28, _, _, _, _, _⟩) (v := ?vc0_5) rfl (by kernel_rfl) (by kernel_rfl) (by kernel_rfl) (fun _ _ _ h => h) (Or.inl ⟨by kernel_rfl, ?yc0_5⟩) (by assumption) ?rc0_5
     case yc0_5 =>
      intro W0 hSw
      (try dsimp only at hSw)
      go_simp
      try with_reducible rfl
     simp only [Act.put, List.setIfInBounds_toArray, List.set_cons_zero, List.set_cons_succ]
     refine wpAnyH_take (i := 6) (oi := ⟨some 29, _, _, _, _, _⟩) (v := ?vc0_6) rfl (by kernel_rfl) (by kernel_rfl) (by kernel_rfl) (fun _ _ _ h => h) (Or.inl ⟨by kernel_rfl, ?yc0_6⟩) (by assumption) ?rc0_6
     case yc0_6 =>
      intro W0 hSw
      (try dsimp only at hSw)
      go_simp
      try with_reducible rfl
     simp only [Act.put, List.setIfInBounds_toArray, List.set_cons_zero, List.set_cons_succ]
     refine wpAnyH_take (i := 7) (oi := ⟨some 30, _, _, _, _, _⟩) (v := ?vc0_7) rfl (by kernel_rfl) (by kernel_rfl) (by kernel_rfl) (fun _ _ _ h => h) (Or.inl ⟨by kernel_rfl, ?yc0_7⟩) (by assumption) ?rc0_7
     case yc0_7 =>
      intro W0 hSw
      (try dsimp only at hSw)
      go_simp
      try with_reducible rfl
     simp only [Act.put, List.setIfInBounds_toArray, List.set_cons_zero, List.set_cons_succ]
     refine wpAnyH_take (i := 8) (oi := ⟨some 31, _, _, _, _, _⟩) (v := ?vc0_8) rfl (by kernel_rfl) (by kernel_rfl) (by kernel_rfl) (fun _ _ _ h => h) (Or.inl ⟨by kernel_rfl, ?yc0_8⟩) (by assumption) ?rc0_8
     case yc0_8 =>
      intro W0 hSw
      (try dsimp only at hSw)
      go_simp
      try with_reducible rfl
     simp only [Act.put, List.setIfInBounds_toArray, List.set_cons_zero, List.set_cons_succ]
     refine wpAnyH_take (i := 9) (oi := ⟨some 32, _, _, _, _, _⟩) (v := ?vc0_9) rfl (by kernel_rfl) (by kernel_rfl) (by kernel_rfl) (fun _ _ _ h => h) (Or.inl ⟨by kernel_rfl, ?yc0_9⟩) (by assumption) ?rc0_9
     case yc0_9 =>
      intro W0 hSw
      (try dsimp only at hSw)
      go_simp
      try with_reducible rfl
     simp only [Act.put, List.setIfInBounds_toArray, List.set_cons_zero, List.set_cons_succ]
     refine wpAnyH_take (i := 10) (oi := ⟨some 33, _, _, _, _, _⟩) (v := ?vc0_10) rfl (by kernel_rfl) (by kernel_rfl) (by kernel_rfl) (fun _ _ _ h => h) (Or.inl ⟨by kernel_rfl, ?yc0_10⟩) (by assumption) ?rc0_10
     case yc0_10 =>
      intro W0 hSw
      (try dsimp only at hSw)
      go_simp
      try with_reducible rfl
     simp only [Act.put, List.setIfInBounds_toArray, List.set_cons_zero, List.set_cons_succ]
     refine wpAnyH_take (i := 11) (oi := ⟨some 34, _, _, _, _, _⟩) (v := ?vc0_11) rfl (by kernel_rfl) (by kernel_rfl) (by kernel_rfl) (fun _ _ _ h => h) (Or.inl ⟨by kernel_rfl, ?yc0_11⟩) (by assumption) ?rc0_11
     case yc0_11 =>
      intro W0 hSw
      (try dsimp only at hSw)
      go_simp
      try with_reducible rfl
     simp only [Act.put, List.setIfInBounds_toArray, List.set_cons_zero, List.set_cons_succ]
     refine wpAnyH_take (i := 12) (oi := ⟨some 35, _, _, _, _, _⟩) (v := ?vc0_12) rfl (by kernel_rfl) (by kernel_rfl) (by kernel_rfl) (fun _ _ _ h => h) (Or.inl ⟨by kernel_rfl, ?yc0_12⟩) (by assumption) ?rc0_12
     case yc0_12 =>
      intro W0 hSw
      (try dsimp only at hSw)
      go_simp
      try with_reducible rfl
     simp only [Act.put, List.setIfInBounds_toArray, List.set_cons_zero, List.set_cons_succ]
     refine wpAnyH_take (i := 13) (oi := ⟨some 36, _, _, _, _, _⟩) (v := ?vc0_13) rfl (by kernel_rfl) (by kernel_rfl) (by kernel_rfl) (fun _ _ _ h => h) (Or.inl ⟨by kernel_rfl, ?yc0_13⟩) (by assumption) ?rc0_13
     case yc0_13 =>
      intro W0 hSw
      (try dsimp only at hSw)
      go_simp
      try with_reducible rfl
     simp only [Act.put, List.setIfInBounds_toArray, List.set_cons_zero, List.set_cons_succ]
     refine wpAnyH_take (i := 14) (oi := ⟨some 37, _, _, _, _, _⟩) (v := ?vc0_14) rfl (by kernel_rfl) (by kernel_rfl) (by kernel_rfl) (fun _ _ _ h => h) (Or.inl ⟨by kernel_rfl, ?yc0_14⟩) (by assumption) ?rc0_14
     case yc0_14 =>
      intro W0 hSw
      (try dsimp only at hSw)
      go_simp
      try with_reducible rfl
     simp only [Act.put, List.setIfInBounds_toArray, List.set_cons_zero, List.set_cons_succ]
     refine wpAnyH_take (i := 15) (oi := ⟨some 38, _, _, _, _, _⟩) (v := ?vc0_15) rfl (by kernel_rfl) (by kernel_rfl) (by kernel_rfl) (fun _ _ _ h => h) (Or.inl ⟨by kernel_rfl, ?yc0_15⟩) (by assumption) ?rc0_15
     case yc0_15 =>
      intro W0 hSw
      (try dsimp only at hSw)
      go_simp
      try with_reducible rfl
     simp only [Act.put, List.setIfInBounds_toArray, List.set_cons_zero, List.set_cons_succ]
     refine wpAnyH_take (i := 16) (oi := ⟨some 39, _, _, _, _, _⟩) (v := ?vc0_16) rfl (by kernel_rfl) (by kernel_rfl) (by kernel_rfl) (fun _ _ _ h => h) (Or.inl ⟨by kernel_rfl, ?yc0_16⟩) (by assumption) ?rc0_16
     case yc0_16 =>
      intro W0 hSw
      (try dsimp only at hSw)
      go_simp
      try with_reducible rfl
     simp only [Act.put, List.setIfInBounds_toArray, List.set_cons_zero, List.set_cons_succ]
     refine wpAnyH_take (i := 17) (oi := ⟨some 40, _, _, _, _, _⟩) (v := ?vc0_17) rfl (by kernel_rfl) (by kernel_rfl) (by kernel_rfl) (fun _ _ _ h => h) (Or.inl ⟨by kernel_rfl, ?yc0_17⟩) (by assumption) ?rc0_17
     case yc0_17 =>
      intro W0 hSw
      (try dsimp only at hSw)
      go_simp
      try with_reducible rfl
     simp only [Act.put, List.setIfInBounds_toArray, List.set_cons_zero, List.set_cons_succ]
     refine wpAnyH_take (i := 18) (oi := ⟨some 41, _, _, _, _, _⟩) (v := ?vc0_18) rfl (by kernel_rfl) (by kernel_rfl) (by kernel_rfl) (fun _ _ _ h => h) (Or.inl ⟨by kernel_rfl, ?yc0_18⟩) (by assumption) ?rc0_18
     case yc0_18 =>
      intro W0 hSw
      (try dsimp only at hSw)
      go_simp
      try with_reducible rfl
     refine wpAnyH_done (by kernel_rfl) ?_ _
     go_wp2
     go_ret
     exact ⟨by rw [E.out]; rfl, HB5.out⟩
    ·have OK := Lib.hid (show farmAt l F k = true from by rw [SUCC.out]; simp; omega)
     have hle' : decide (y.farm ≤ y2.farm) = false := decide_eq_false hle
     clear hle
     go_wp2_with fail
     refine wp_region_held_drew (S := fun w' => w'.cell? ⟨w.heap.size, 0, none⟩ = some (.slice r.sp r.sn r.sc) ∧ w'.cell? ⟨w.heap.size, 1, none⟩ = some (.slice r.tp r.tn r.tc) ∧ w'.cell? ⟨w.heap.size, 2, none⟩ = some (.int .i64 r.due) ∧ w'.cell? ⟨w.heap.size, 3, none⟩ = some (.int .i64 r.last) ∧ w'.cell? ⟨w.heap.size, 4, none⟩ = some (.int .i64 r.mille) ∧ w'.cell? ⟨w.heap.size, 5, none⟩ = some (.slice r.gp r.gn r.gc) ∧ w'.cell? ⟨w.heap.size, 6, none⟩ = some (.int .i64 r.cap) ∧ w'.cell? ⟨w.heap.size, 7, none⟩ = some (.int .i64 r.env) ∧ w'.cell? ⟨w.heap.size, 8, none⟩ = some (.int .i64 r.unit) ∧ w'.cell? ⟨w.heap.size, 9, none⟩ = some (.int .i64 r.width) ∧ w'.cell? ⟨wp.heap.size, 0, none⟩ = some (.int .i64 y.farm) ∧ w'.cell? ⟨wp.heap.size, 1, none⟩ = some (.int .i64 y.day) ∧ w'.cell? ⟨wp.heap.size, 2, none⟩ = some (.slice y.lp y.ln y.lc) ∧ w'.cell? ⟨b, off + m * 3, none⟩ = some (.int .i64 y2.farm)) (by kernel_rfl) KD.out (fun hHeld => ?_)
     refine wpAnyH_take (i := 0) (oi := ⟨some 23, _, _, _, _, _⟩) (v := ?vd0_0) rfl (by kernel_rfl) (by kernel_rfl) (by kernel_rfl) (fun _ _ _ h => h) (Or.inl ⟨by kernel_rfl, ?yd0_0⟩) (by assumption) ?rd0_0
     case yd0_0 =>
      intro W0 hSw
      (try dsimp only at hSw)
      go_simp
      try with_reducible rfl
     simp only [Act.put, List.setIfInBounds_toArray, List.set_cons_zero, List.set_cons_succ]
     refine wpAnyH_take (i := 1) (oi := ⟨some 24, _, _, _, _, _⟩) (v := ?vd0_1) rfl (by kernel_rfl) (by kernel_rfl) (by kernel_rfl) (fun _ _ _ h => h) (Or.inl ⟨by kernel_rfl, ?yd0_1⟩) (by assumption) ?rd0_1
     case yd0_1 =>
      intro W0 hSw
      (try dsimp only at hSw)
      go_simp
      try with_reducible rfl
     simp only [Act.put, List.setIfInBounds_toArray, List.set_cons_zero, List.set_cons_succ]
     refine wpAnyH_ready (rs := [2]) (by kernel_rfl) (by simp) ?_
     refine AllReadyH.cons (o := ⟨some 25, _, _, _, _, _⟩) rfl (fun K hK => ?_) AllReadyH.nil
     go_simp
     (with_reducible refine Calls.mono FM.out ?_)
     rintro e w5 ⟨rfl, hb5⟩
     have HB5 := Lib.hid (bstep (Nat.le_refl _) HBX.out.drew hb5)
     have HC5 := Lib.hid (bstep (Nat.le_refl _) HWX.out.drew hb5)
     have K5 := Lib.hid (show w5.cell? ⟨w.heap.size, 0, none⟩ = some (.slice r.sp r.sn r.sc) ∧ w5.cell? ⟨w.heap.size, 1, none⟩ = some (.slice r.tp r.tn r.tc) ∧ w5.cell? ⟨w.heap.size, 2, none⟩ = some (.int .i64 r.due) ∧ w5.cell? ⟨w.heap.size, 3, none⟩ = some (.int .i64 r.last) ∧ w5.cell? ⟨w.heap.size, 4, none⟩ = some (.int .i64 r.mille) ∧ w5.cell? ⟨w.heap.size, 5, none⟩ = some (.slice r.gp r.gn r.gc) ∧ w5.cell? ⟨w.heap.size, 6, none⟩ = some (.int .i64 r.cap) ∧ w5.cell? ⟨w.heap.size, 7, none⟩ = some (.int .i64 r.env) ∧ w5.cell? ⟨w.heap.size, 8, none⟩ = some (.int .i64 r.unit) ∧ w5.cell? ⟨w.heap.size, 9, none⟩ = some (.int .i64 r.width) ∧ w5.cell? ⟨wp.heap.size, 0, none⟩ = some (.int .i64 y.farm) ∧ w5.cell? ⟨wp.heap.size, 1, none⟩ = some (.int .i64 y.day) ∧ w5.cell? ⟨wp.heap.size, 2, none⟩ = some (.slice y.lp y.ln y.lc) ∧ w5.cell? ⟨b, off + m * 3, none⟩ = some (.int .i64 y2.farm) from ⟨(hb5.cell (p := ⟨w.heap.size, 0, none⟩) U1.out).trans KA.out.1, (hb5.cell (p := ⟨w.heap.size, 1, none⟩) U1.out).trans KA.out.2.1, (hb5.cell (p := ⟨w.heap.size, 2, none⟩) U1.out).trans KA.out.2.2.1, (hb5.cell (p := ⟨w.heap.size, 3, none⟩) U1.out).trans KA.out.2.2.2.1, (hb5.cell (p := ⟨w.heap.size, 4, none⟩) U1.out).trans KA.out.2.2.2.2.1, (hb5.cell (p := ⟨w.heap.size, 5, none⟩) U1.out).trans KA.out.2.2.2.2.2.1, (hb5.cell (p := ⟨w.heap.size, 6, none⟩) U1.out).trans KA.out.2.2.2.2.2.2.1, (hb5.cell (p := ⟨w.heap.size, 7, none⟩) U1.out).trans KA.out.2.2.2.2.2.2.2.1, (hb5.cell (p := ⟨w.heap.size, 8, none⟩) U1.out).trans KA.out.2.2.2.2.2.2.2.2.1, (hb5.cell (p := ⟨w.heap.size, 9, none⟩) U1.out).trans KA.out.2.2.2.2.2.2.2.2.2.1, (hb5.cell (p := ⟨wp.heap.size, 0, none⟩) U3.out).trans KA.out.2.2.2.2.2.2.2.2.2.2.1, (hb5.cell (p := ⟨wp.heap.size, 1, none⟩) U3.out).trans KA.out.2.2.2.2.2.2.2.2.2.2.2.1, (hb5.cell (p := ⟨wp.heap.size, 2, none⟩) U3.out).trans KA.out.2.2.2.2.2.2.2.2.2.2.2.2.1, (hb5.cell (p := ⟨b, off + m * 3, none⟩) U4.out).trans KA.out.2.2.2.2.2.2.2.2.2.2.2.2.2⟩)
     clear hb5
     go_wp2_with fail
     refine hK.out _ _ ?hSd0_2 (fun hHeld2 => ?_)
     case hSd0_2 => exact K5.out
     clear hK K
     refine wpAnyH_take (i := 3) (oi := ⟨some 26, _, _, _, _, _⟩) (v := ?vd0_3) rfl (by kernel_rfl) (by kernel_rfl) (by kernel_rfl) (fun _ _ _ h => h) (Or.inl ⟨by kernel_rfl, ?yd0_3⟩) (by assumption) ?rd0_3
     case yd0_3 =>
      intro W0 hSw
      (try dsimp only at hSw)
      go_simp
      try with_reducible rfl
     simp only [Act.put, List.setIfInBounds_toArray, List.set_cons_zero, List.set_cons_succ]
     refine wpAnyH_take (i := 4) (oi := ⟨some 27, _, _, _, _, _⟩) (v := ?vd0_4) rfl (by kernel_rfl) (by kernel_rfl) (by kernel_rfl) (fun _ _ _ h => h) (Or.inl ⟨by kernel_rfl, ?yd0_4⟩) (by assumption) ?rd0_4
     case yd0_4 =>
      intro W0 hSw
      (try dsimp only at hSw)
      go_simp
      try with_reducible rfl
     simp only [Act.put, List.setIfInBounds_toArray, List.set_cons_zero, List.set_cons_succ]
     refine wpAnyH_take (i := 5) (oi := ⟨some 28, _, _, _, _, _⟩) (v := ?vd0_5) rfl (by kernel_rfl) (by kernel_rfl) (by kernel_rfl) (fun _ _ _ h => h) (Or.inl ⟨by kernel_rfl, ?yd0_5⟩) (by assumption) ?rd0_5
     case yd0_5 =>
      intro W0 hSw
      (try dsimp only at hSw)
      go_simp
      try with_reducible rfl
     simp only [Act.put, List.setIfInBounds_toArray, List.set_cons_zero, List.set_cons_succ]
     refine wpAnyH_take (i := 6) (oi := ⟨some 29, _, _, _, _, _⟩) (v := ?vd0_6) rfl (by kernel_rfl) (by kernel_rfl) (by kernel_rfl) (fun _ _ _ h => h) (Or.inl ⟨by kernel_rfl, ?yd0_6⟩) (by assumption) ?rd0_6
     case yd0_6 =>
      intro W0 hSw
      (try dsimp only at hSw)
      go_simp
      try with_reducible rfl
     simp only [Act.put, List.setIfInBounds_toArray, List.set_cons_zero, List.set_cons_succ]
     refine wpAnyH_take (i := 7) (oi := ⟨some 30, _, _, _, _, _⟩) (v := ?vd0_7) rfl (by kernel_rfl) (by kernel_rfl) (by kernel_rfl) (fun _ _ _ h => h) (Or.inl ⟨by kernel_rfl, ?yd0_7⟩) (by assumption) ?rd0_7
     case yd0_7 =>
      intro W0 hSw
      (try dsimp only at hSw)
      go_simp
      try with_reducible rfl
     simp only [Act.put, List.setIfInBounds_toArray, List.set_cons_zero, List.set_cons_succ]
     refine wpAnyH_take (i := 8) (oi := ⟨some 31, _, _, _, _, _⟩) (v := ?vd0_8) rfl (by kernel_rfl) (by kernel_rfl) (by kernel_rfl) (fun _ _ _ h => h) (Or.inl ⟨by kernel_rfl, ?yd0_8⟩) (by assumption) ?rd0_8
     case yd0_8 =>
      intro W0 hSw
      (try dsimp only at hSw)
      go_simp
      try with_reducible rfl
     simp only [Act.put, List.setIfInBounds_toArray, List.set_cons_zero, List.set_cons_succ]
     refine wpAnyH_take (i := 9) (oi := ⟨some 32, _, _, _, _, _⟩) (v := ?vd0_9) rfl (by kernel_rfl) (by kernel_rfl) (by kernel_rfl) (fun _ _ _ h => h) (Or.inl ⟨by kernel_rfl, ?yd0_9⟩) (by assumption) ?rd0_9
     case yd0_9 =>
      intro W0 hSw
      (try dsimp only at hSw)
      go_simp
      try with_reducible rfl
     simp only [Act.put, List.setIfInBounds_toArray, List.set_cons_zero, List.set_cons_succ]
     refine wpAnyH_take (i := 10) (oi := ⟨some 33, _, _, _, _, _⟩) (v := ?vd0_10) rfl (by kernel_rfl) (by kernel_rfl) (by kernel_rfl) (fun _ _ _ h => h) (Or.inl ⟨by kernel_rfl, ?yd0_10⟩) (by assumption) ?rd0_10
     case yd0_10 =>
      intro W0 hSw
      (try dsimp only at hSw)
      go_simp
      try with_reducible rfl
     simp only [Act.put, List.setIfInBounds_toArray, List.set_cons_zero, List.set_cons_succ]
     refine wpAnyH_take (i := 11) (oi := ⟨some 34, _, _, _, _, _⟩) (v := ?vd0_11) rfl (by kernel_rfl) (by kernel_rfl) (by kernel_rfl) (fun _ _ _ h => h) (Or.inl ⟨by kernel_rfl, ?yd0_11⟩) (by assumption) ?rd0_11
     case yd0_11 =>
      intro W0 hSw
      (try dsimp only at hSw)
      go_simp
      try with_reducible rfl
     simp only [Act.put, List.setIfInBounds_toArray, List.set_cons_zero, List.set_cons_succ]
     refine wpAnyH_take (i := 12) (oi := ⟨some 35, _, _, _, _, _⟩) (v := ?vd0_12) rfl (by kernel_rfl) (by kernel_rfl) (by kernel_rfl) (fun _ _ _ h => h) (Or.inl ⟨by kernel_rfl, ?yd0_12⟩) (by assumption) ?rd0_12
     case yd0_12 =>
      intro W0 hSw
      (try dsimp only at hSw)
      go_simp
      try with_reducible rfl
     simp only [Act.put, List.setIfInBounds_toArray, List.set_cons_zero, List.set_cons_succ]
     refine wpAnyH_take (i := 13) (oi := ⟨some 36, _, _, _, _, _⟩) (v := ?vd0_13) rfl (by kernel_rfl) (by kernel_rfl) (by kernel_rfl) (fun _ _ _ h => h) (Or.inl ⟨by kernel_rfl, ?yd0_13⟩) (by assumption) ?rd0_13
     case yd0_13 =>
      intro W0 hSw
      (try dsimp only at hSw)
      go_simp
      try with_reducible rfl
     simp only [Act.put, List.setIfInBounds_toArray, List.set_cons_zero, List.set_cons_succ]
     refine wpAnyH_take (i := 14) (oi := ⟨some 37, _, _, _, _, _⟩) (v := ?vd0_14) rfl (by kernel_rfl) (by kernel_rfl) (by kernel_rfl) (fun _ _ _ h => h) (Or.inl ⟨by kernel_rfl, ?yd0_14⟩) (by assumption) ?rd0_14
     case yd0_14 =>
      intro W0 hSw
      (try dsimp only at hSw)
      go_simp
      try with_reducible rfl
     simp only [Act.put, List.setIfInBounds_toArray, List.set_cons_zero, List.set_cons_succ]
     refine wpAnyH_take (i := 15) (oi := ⟨some 38, _, _, _, _, _⟩) (v := ?vd0_15) rfl (by kernel_rfl) (by kernel_rfl) (by kernel_rfl) (fun _ _ _ h => h) (Or.inl ⟨by kernel_rfl, ?yd0_15⟩) (by assumption) ?rd0_15
     case yd0_15 =>
      intro W0 hSw
      (try dsimp only at hSw)
      go_simp
      try with_reducible rfl
     simp only [Act.put, List.setIfInBounds_toArray, List.set_cons_zero, List.set_cons_succ]
     refine wpAnyH_take (i := 16) (oi := ⟨some 39, _, _, _, _, _⟩) (v := ?vd0_16) rfl (by kernel_rfl) (by kernel_rfl) (by kernel_rfl) (fun _ _ _ h => h) (Or.inl ⟨by kernel_rfl, ?yd0_16⟩) (by assumption) ?rd0_16
     case yd0_16 =>
      intro W0 hSw
      (try dsimp only at hSw)
      go_simp
      try with_reducible rfl
     simp only [Act.put, List.setIfInBounds_toArray, List.set_cons_zero, List.set_cons_succ]
     refine wpAnyH_take (i := 17) (oi := ⟨some 40, _, _, _, _, _⟩) (v := ?vd0_17) rfl (by kernel_rfl) (by kernel_rfl) (by kernel_rfl) (fun _ _ _ h => h) (Or.inl ⟨by kernel_rfl, ?yd0_17⟩) (by assumption) ?rd0_17
     case yd0_17 =>
      intro W0 hSw
      (try dsimp only at hSw)
      go_simp
      try with_reducible rfl
     simp only [Act.put, List.setIfInBounds_toArray, List.set_cons_zero, List.set_cons_succ]
     refine wpAnyH_take (i := 18) (oi := ⟨some 41, _, _, _, _, _⟩) (v := ?vd0_18) rfl (by kernel_rfl) (by kernel_rfl) (by kernel_rfl) (fun _ _ _ h => h) (Or.inl ⟨by kernel_rfl, ?yd0_18⟩) (by assumption) ?rd0_18
     case yd0_18 =>
      intro W0 hSw
      (try dsimp only at hSw)
      go_simp
      try with_reducible rfl
     refine wpAnyH_done (by kernel_rfl) ?_ _
     go_wp2
     go_roundw
     case rel => exact ⟨k + 1, by omega, by go_num, fun j hj => by
      by_cases e : j = k
      ·subst e; exact OK.out
      ·exact HAL.out j (by omega), HC5.out⟩
     case measure => simp [intOf]; omega
end Go.Proofs.YtmlfcpglhipjgaaGreat
