/-
  PACKED (pack8.py): what is needed of the texts Q19.
-/
import Derived.Test.YtmlfcpglhipjgaaGreatZ0
import Derived.Test.YtmlfcpglhipjgaaGreatZ1
import Derived.Test.YtmlfcpglhipjgaaGreatZ2
import Derived.Test.YtmlfcpglhipjgaaGreatZ4
import Derived.Test.YtmlfcpglhipjgaaGreatZ6
import Derived.Test.YtmlfcpglhipjgaaGreatZ9
import Derived.Test.YtmlfcpglhipjgaaGreatZ13
import Derived.Test.YtmlfcpglhipjgaaGreatZ14
namespace Go.Proofs.YtmlfcpglhipjgaaGreat.Sc
end Go.Proofs.YtmlfcpglhipjgaaGreat.Sc
namespace Go.Proofs.YtmlfcpglhipjgaaGreat.As
end Go.Proofs.YtmlfcpglhipjgaaGreat.As
namespace Go.Proofs.YtmlfcpglhipjgaaGreat
open Go.RowKit Sc As
theorem As.lineB_cases (l : YLaw) (x : LineF) : ((bits BinOp.andNot IntKind.i64 x.sch (allV l.sch) != 0) = true ∧ lineB l x = false) ∨
  ((bits BinOp.andNot IntKind.i64 x.sch (allV l.sch) != 0) = false ∧ x.due.length ≠ l.sch.length ∧ lineB l x = false) ∨
  ((bits BinOp.andNot IntKind.i64 x.sch (allV l.sch) != 0) = false ∧ x.due.length = l.sch.length ∧ x.decl < 0 ∧ lineB l x = false) ∨
  ((bits BinOp.andNot IntKind.i64 x.sch (allV l.sch) != 0) = false ∧ x.due.length = l.sch.length ∧ ¬ x.decl < 0 ∧ 268435456 < x.decl ∧ lineB l x = false) ∨
  ((bits BinOp.andNot IntKind.i64 x.sch (allV l.sch) != 0) = false ∧ x.due.length = l.sch.length ∧ ¬ x.decl < 0 ∧ ¬ 268435456 < x.decl ∧ lineB l x = (List.range l.sch.length).all (schOk l x)) := by
 unfold lineB
 obtain ⟨b, eb⟩ : ∃ b, bits BinOp.andNot IntKind.i64 x.sch (allV l.sch) = b := ⟨_, rfl⟩
 rw [eb]
 by_cases h0 : b = 0
 ·subst h0
  by_cases h1 : x.due.length = l.sch.length
  ·by_cases h2 : x.decl < 0
   ·exact .inr (.inr (.inl ⟨rfl, h1, h2, by simp; omega⟩))
   ·by_cases h3 : 268435456 < x.decl
    ·exact .inr (.inr (.inr (.inl ⟨rfl, h1, h2, h3, by simp; omega⟩)))
    ·refine .inr (.inr (.inr (.inr ⟨rfl, h1, h2, h3, ?_⟩)))
     rw [decide_eq_true h1, decide_eq_true (show 0 ≤ x.decl by omega), decide_eq_true (show x.decl ≤ 268435456 by omega)]
     simp
  ·exact .inr (.inl ⟨rfl, h1, by simp [h1]⟩)
 ·exact .inl ⟨by simpa using h0, by simp [h0]⟩
set_option maxRecDepth 100000 in
set_option maxHeartbeats 8000000 in
theorem line34_any {Q Q2 : Nat → Prop} (d : Nat) (r : RY) (l : YLaw) (rl : RL) (x : LineF) (w : World) (h : YV Q w d r l) (hn : ∀ s ∈ l.sch, 0 ≤ s.num ∧ s.num ≤ 15) (hx : LV Q2 w rl x) :
  Calls Tryz.prog 102 #[.agg (yCells r).toArray, .agg (lCells rl).toArray] w (BoolG (lineB l x) w) := by
 have hs0 := h.sch.len
 have hd0 := hx.due.1
 have H := Lib.hid h.sch
 have HN := Lib.hid hn
 have HD := Lib.hid hx.due
 have HX := Lib.hid hx
 have LC := lineB_cases l x
 obtain ⟨V, eV⟩ : ∃ V, lineB l x = V := ⟨_, rfl⟩
 have AS := Lib.hid (fun (k : Nat) (hk : k < l.sch.length) => allV_take hk)
 have SO := Lib.hid (fun (k : Nat) (hk : k < l.sch.length) => show schOk l x k = if namesB x l.sch[k] then decide (chk28 (factOf x k) l.width = 0) else decide (x.due.getD k 0 = 0) from by unfold schOk; rw [List.getElem?_eq_getElem hk])
 rw [eV] at LC ⊢
 clear eV hn
 obtain ⟨sp, sn, sc, tp, tn', tc, ldue, llast, lmille, gp, gn, gc, cp, ev, un, wd⟩ := r
 obtain ⟨sch, steps, ⟨ldue', llast', lmille'⟩, deg, cp', ev', un', wd'⟩ := l
 obtain ⟨dl, ls, dp, dn, dc, se, ki, ar, bo⟩ := rl
 obtain ⟨dl', ls', due, se', ki', ar', bo'⟩ := x
 have e1 := h.sn; have e2 := h.tn; have e3 := h.due; have e4 := h.last; have e5 := h.mille; have e6 := h.gn; have e7 := h.cap; have e8 := h.env; have e9 := h.unit; have e10 := h.width
 have g1 := hx.decl; have g2 := hx.sch; have g3 := hx.dn; have g4 := hx.season; have g5 := hx.kind; have g6 := hx.area; have g7 := hx.border
 clear h hx
 simp only at e1 e2 e3 e4 e5 e6 e7 e8 e9 e10 g1 g2 g3 g4 g5 g6 g7 H HN HD LC AS SO HX hs0 hd0
 subst e1 e2 e3 e4 e5 e6 e7 e8 e9 e10 g1 g2 g3 g4 g5 g6 g7
 have HA := Lib.hid (balloc (Nat.le_refl _) (balloc (Nat.le_refl _) (Below.refl w.heap.size w) (.cells #[.slice sp sch.length sc, .slice tp steps.length tc, .int .i64 ldue, .int .i64 llast, .int .i64 lmille, .slice gp deg.length gc, .int .i64 cp, .int .i64 ev, .int .i64 un, .int .i64 wd] 29)) (.cells #[.int .i64 dl, .int .i64 ls, .slice dp due.length dc, .int .i64 se, .int .i64 ki, .int .i64 ar, .int .i64 bo] 68))
 obtain ⟨W2, eW2⟩ : ∃ W2, (w.alloc (.cells #[.slice sp sch.length sc, .slice tp steps.length tc, .int .i64 ldue, .int .i64 llast, .int .i64 lmille, .slice gp deg.length gc, .int .i64 cp, .int .i64 ev, .int .i64 un, .int .i64 wd] 29)).alloc (.cells #[.int .i64 dl, .int .i64 ls, .slice dp due.length dc, .int .i64 se, .int .i64 ki, .int .i64 ar, .int .i64 bo] 68) = W2 := ⟨_, rfl⟩
 have EW := Lib.hid eW2
 clear eW2
 simp only [yCells, lCells]
 go_enter Tryz.func102, Tryz.ntmps102
 go_wp2
 go_loopw [5, 13] (fun a i wr => ∃ k : Nat, k ≤ sch.length ∧ i = .int .i64 k ∧ a = .int .i64 (allV (sch.take k)) ∧ Below W2.heap.size W2 wr) (fun _ i _ => sch.length - (intOf i).toNat)
 case atStart => exact ⟨0, Nat.zero_le _, rfl, rfl, by rw [← EW.out]; exact Below.refl _ _⟩
 case round =>
  obtain ⟨wo, rfl⟩ : ∃ wo : World, wo = wr := ⟨_, rfl⟩
  obtain ⟨k, hk, rfl, rfl, hb⟩ := hrel
  have HBW := Lib.hid (show Below w.heap.size w wo from bstep (Nat.le_refl _) (by rw [← EW.out]; exact HA.out) hb)
  have hk0 : (0 : Int) ≤ (k : Int) := Int.natCast_nonneg _
  by_cases hlt : k < sch.length
  ·have hk1 : (k : Int) < (sch.length : Int) := by omega
   obtain ⟨b, off, y, rfl, hbl, hC, hv⟩ := (H.out.below HBW.out).at hlt
   have hnum := hv.num
   have hb15 := HN.out _ (List.getElem_mem hlt)
   have ST := Lib.hid (AS.out k hlt)
   rw [← hnum] at hb15 ST
   obtain ⟨c0, c1, c2, c3, c4, c5, c6, c7, c8, c9⟩ := hC
   clear hv hnum
   obtain ⟨num, nm, ⟨o, tn, tm, tq, tl, tz⟩, bp, bn, bc, least, ex, needs⟩ := y
   simp only at c0 c1 c2 c3 c4 c5 c6 c7 c8 c9 hb15 ST
   obtain ⟨n0, n1⟩ := hb15
   obtain ⟨A, eA⟩ : ∃ A, allV (sch.take k) = A := ⟨_, rfl⟩
   rw [eA] at ST ⊢
   have HBX := Lib.hid (balloc (Nat.le_refl _) hb (.cells #[.int .i64 num, .string nm, .int .i64 o, .int .i64 tn, .int .i64 tm, .slice tq tl tz, .slice bp bn bc, .int .i64 least, .int .i64 ex, .bool needs] 101))
   clear eA hb
   go_wp2
   go_roundw
   case rel => exact ⟨k + 1, by omega, by go_num, by rw [ST.out], HBX.out⟩
   case measure => simp [intOf]; omega
  ·obtain rfl : k = sch.length := by omega
   have SZ := Lib.hid (show W2.heap.size = w.heap.size + 2 by rw [← EW.out]; simp)
   have P := Lib.hid (show W2.cell? ⟨w.heap.size + 1, 0, none⟩ = some (.int .i64 dl) ∧ W2.cell? ⟨w.heap.size + 1, 1, none⟩ = some (.int .i64 ls) ∧ W2.cell? ⟨w.heap.size + 1, 2, none⟩ = some (.slice dp due.length dc) ∧ W2.cell? ⟨w.heap.size + 1, 3, none⟩ = some (.int .i64 se) ∧ W2.cell? ⟨w.heap.size + 1, 4, none⟩ = some (.int .i64 ki) ∧ W2.cell? ⟨w.heap.size + 1, 5, none⟩ = some (.int .i64 ar) ∧ W2.cell? ⟨w.heap.size + 1, 6, none⟩ = some (.int .i64 bo) ∧ W2.cell? ⟨w.heap.size, 0, none⟩ = some (.slice sp sch.length sc) ∧ W2.cell? ⟨w.heap.size, 9, none⟩ = some (.int .i64 wd) from by
    rw [← EW.out]
    have c := World.cell?_alloc_new (w.alloc (.cells #[.slice sp sch.length sc, .slice tp steps.length tc, .int .i64 ldue, .int .i64 llast, .int .i64 lmille, .slice gp deg.length gc, .int .i64 cp, .int .i64 ev, .int .i64 un, .int .i64 wd] 29)) #[.int .i64 dl, .int .i64 ls, .slice dp due.length dc, .int .i64 se, .int .i64 ki, .int .i64 ar, .int .i64 bo] 68
    simp only [World.size_alloc] at c
    exact ⟨c 0, c 1, c 2, c 3, c 4, c 5, c 6,
     ((balloc (Nat.le_refl _) (Below.refl (w.alloc (.cells #[.slice sp sch.length sc, .slice tp steps.length tc, .int .i64 ldue, .int .i64 llast, .int .i64 lmille, .slice gp deg.length gc, .int .i64 cp, .int .i64 ev, .int .i64 un, .int .i64 wd] 29)).heap.size (w.alloc (.cells #[.slice sp sch.length sc, .slice tp steps.length tc, .int .i64 ldue, .int .i64 llast, .int .i64 lmille, .slice gp deg.length gc, .int .i64 cp, .int .i64 ev, .int .i64 un, .int .i64 wd] 29))) (.cells #[.int .i64 dl, .int .i64 ls, .slice dp due.length dc, .int .i64 se, .int .i64 ki, .int .i64 ar, .int .i64 bo] 68)).cell (p := ⟨w.heap.size, 0, none⟩) (by simp)).trans (World.cell?_alloc_new _ _ _ 0), ((balloc (Nat.le_refl _) (Below.refl (w.alloc (.cells #[.slice sp sch.length sc, .slice tp steps.length tc, .int .i64 ldue, .int .i64 llast, .int .i64 lmille, .slice gp deg.length gc, .int .i64 cp, .int .i64 ev, .int .i64 un, .int .i64 wd] 29)).heap.size (w.alloc (.cells #[.slice sp sch.length sc, .slice tp steps.length tc, .int .i64 ldue, .int .i64 llast, .int .i64 lmille, .slice gp deg.length gc, .int .i64 cp, .int .i64 ev, .int .i64 un, .int .i64 wd] 29))) (.cells #[.int .i64 dl, .int .i64 ls, .slice dp due.length dc, .int .i64 se, .int .i64 ki, .int .i64 ar, .int .i64 bo] 68)).cell (p := ⟨w.heap.size, 9, none⟩) (by simp)).trans (World.cell?_alloc_new _ _ _ 9)⟩)
   have s1 : w.heap.size < W2.heap.size := by rw [SZ.out]; omega
   have s2 : w.heap.size + 1 < W2.heap.size := by rw [SZ.out]; omega
   have PW := Lib.hid (show wo.cell? ⟨w.heap.size + 1, 0, none⟩ = some (.int .i64 dl) ∧ wo.cell? ⟨w.heap.size + 1, 1, none⟩ = some (.int .i64 ls) ∧ wo.cell? ⟨w.heap.size + 1, 2, none⟩ = some (.slice dp due.length dc) ∧ wo.cell? ⟨w.heap.size + 1, 3, none⟩ = some (.int .i64 se) ∧ wo.cell? ⟨w.heap.size + 1, 4, none⟩ = some (.int .i64 ki) ∧ wo.cell? ⟨w.heap.size + 1, 5, none⟩ = some (.int .i64 ar) ∧ wo.cell? ⟨w.heap.size + 1, 6, none⟩ = some (.int .i64 bo) ∧ wo.cell? ⟨w.heap.size, 0, none⟩ = some (.slice sp sch.length sc) ∧ wo.cell? ⟨w.heap.size, 9, none⟩ = some (.int .i64 wd) from ⟨(hb.cell (p := ⟨w.heap.size + 1, 0, none⟩) s2).trans P.out.1, (hb.cell (p := ⟨w.heap.size + 1, 1, none⟩) s2).trans P.out.2.1, (hb.cell (p := ⟨w.heap.size + 1, 2, none⟩) s2).trans P.out.2.2.1, (hb.cell (p := ⟨w.heap.size + 1, 3, none⟩) s2).trans P.out.2.2.2.1, (hb.cell (p := ⟨w.heap.size + 1, 4, none⟩) s2).trans P.out.2.2.2.2.1, (hb.cell (p := ⟨w.heap.size + 1, 5, none⟩) s2).trans P.out.2.2.2.2.2.1, (hb.cell (p := ⟨w.heap.size + 1, 6, none⟩) s2).trans P.out.2.2.2.2.2.2.1, (hb.cell (p := ⟨w.heap.size, 0, none⟩) s1).trans P.out.2.2.2.2.2.2.2.1, (hb.cell (p := ⟨w.heap.size, 9, none⟩) s1).trans P.out.2.2.2.2.2.2.2.2⟩)
   have S1 := Lib.hid (show w.heap.size < wo.heap.size from Nat.lt_of_lt_of_le s1 hb.size)
   have S2 := Lib.hid (show w.heap.size + 1 < wo.heap.size from Nat.lt_of_lt_of_le s2 hb.size)
   obtain ⟨p0, p1, p2, p3, p4, p5, p6, q0, q9⟩ := PW.out
   have hd1 := HD.out.len
   obtain ⟨B, eB⟩ : ∃ B, bits BinOp.andNot IntKind.i64 ls (allV sch) = B := ⟨_, rfl⟩
   rw [show allV (sch.take sch.length) = allV sch from by rw [List.take_length]]
   obtain ⟨A, eA⟩ : ∃ A, allV sch = A := ⟨_, rfl⟩
   rw [eA] at eB ⊢
   rw [eA, eB] at LC
   clear s1 s2 hb eA hk hlt
   rcases LC with ⟨l1, l2⟩ | ⟨l1, l2, l3⟩ | ⟨l1, l2, l3, l4⟩ | ⟨l1, l2, l3, l4, l5⟩ | ⟨l1, l2, l3, l4, l5⟩
   ·subst l2
    rw [← eB] at l1
    clear eB
    go_wp2
    go_ret
    exact ⟨rfl, HBW.out⟩
   ·subst l3
    rw [← eB] at l1
    clear eB
    have l2' : ((due.length : Int) != (sch.length : Int)) = true := by rw [bne_iff_ne]; omega
    clear l2
    go_wp2
    go_ret
    exact ⟨rfl, HBW.out⟩
   ·subst l4
    rw [← eB] at l1
    clear eB
    have l2' : ((due.length : Int) != (sch.length : Int)) = false := by rw [l2]; exact bne_self_eq_false _
    have L2 := Lib.hid l2
    clear l2
    go_wp2
    go_ret
    exact ⟨rfl, HBW.out⟩
   ·subst l5
    rw [← eB] at l1
    clear eB
    have l2' : ((due.length : Int) != (sch.length : Int)) = false := by rw [l2]; exact bne_self_eq_false _
    have L2 := Lib.hid l2
    clear l2
    go_wp2
    go_ret
    exact ⟨rfl, HBW.out⟩
   ·rw [← eB] at l1
    have EV := Lib.hid l5
    have l2' : ((due.length : Int) != (sch.length : Int)) = false := by rw [l2]; exact bne_self_eq_false _
    have L2 := Lib.hid l2
    clear l2 l5 eB
    obtain ⟨SK, eSK⟩ : ∃ SK, schOk ⟨sch, steps, ⟨ldue, llast, lmille⟩, deg, cp, ev, un, wd⟩ ⟨dl, ls, due, se, ki, ar, bo⟩ = SK := ⟨_, rfl⟩
    rw [eSK] at EV SO
    clear eSK
    go_wp2
    go_loopw [50] (fun i wr => ∃ k : Nat, k ≤ sch.length ∧ i = .int .i64 k ∧ (∀ j, j < k → SK j = true) ∧ Below wo.heap.size wo wr) (fun i _ => sch.length - (intOf i).toNat)
    case atStart => exact ⟨0, Nat.zero_le _, rfl, fun j hj => absurd hj (Nat.not_lt_zero j), Below.refl _ _⟩
    case round =>
     obtain ⟨wp, rfl⟩ : ∃ wp : World, wp = wr := ⟨_, rfl⟩
     obtain ⟨k, hk, rfl, hall, hb⟩ := hrel
     have HAL := Lib.hid hall
     have HBP := Lib.hid (bstep (Nat.le_refl _) HBW.out hb)
     have hk0 : (0 : Int) ≤ (k : Int) := Int.natCast_nonneg _
     by_cases hlt : k < sch.length
     ·have hk1 : (k : Int) < (sch.length : Int) := by omega
      have hk2 : (k : Int) < (due.length : Int) := by have := L2.out; omega
      have hkd : k < due.length := by have := L2.out; omega
      obtain ⟨b, off, y, rfl, hbl, hC, hv⟩ := (H.out.below HBP.out).at hlt
      have hnum := hv.num
      have hb15 := HN.out _ (List.getElem_mem hlt)
      have SKE := SO.out k hlt
      unfold namesB at SKE
      rw [← hnum] at hb15 SKE
      obtain ⟨c0, c1, c2, c3, c4, c5, c6, c7, c8, c9⟩ := hC
      clear hv hnum
      obtain ⟨num, nm, ⟨o, tn, tm, tq, tl, tz⟩, bp, bn, bc, least, ex, needs⟩ := y
      simp only at c0 c1 c2 c3 c4 c5 c6 c7 c8 c9 hb15 SKE
      have NM := Lib.hid (fun (W : World) => names34_any ⟨dl, ls, dp, due.length, dc, se, ki, ar, bo⟩ ⟨num, nm, ⟨o, tn, tm, tq, tl, tz⟩, bp, bn, bc, least, ex, needs⟩ W hb15.1 hb15.2)
      have FC := Lib.hid (fun (W : World) (hW : Below w.heap.size w W) => fact34_any ⟨dl, ls, dp, due.length, dc, se, ki, ar, bo⟩ ⟨dl, ls, due, se, ki, ar, bo⟩ k W (HX.out.below hW) hkd)
      obtain ⟨bd, offd, ed, hbd, hcd⟩ := HD.out.at hkd
      cases ed
      obtain ⟨u, eu⟩ : ∃ u, due.getD k 0 = u := ⟨_, rfl⟩
      rw [eu] at hcd
      have hcd := (HBP.out.cell (p := ⟨bd, offd + k, none⟩) hbd).trans hcd
      simp only [eu] at SKE
      obtain ⟨⟨fd, fu, fs, fk, fa, fb⟩, eF⟩ : ∃ F, factOf ⟨dl, ls, due, se, ki, ar, bo⟩ k = F := ⟨_, rfl⟩
      rw [eF] at FC SKE
      have CK := Lib.hid (fun (W : World) => show Calls Tryz.prog 140 #[.agg (fcells ⟨fd, fu, fs, fk, fa, fb⟩).toArray, .int .i64 wd] W (fun e w' => e = .returned (.int .i64 (chk28 ⟨fd, fu, fs, fk, fa, fb⟩ wd)) ∧ Below W.heap.size W w') from check28_any fd fu fs fk fa fb wd W)
      obtain ⟨cv, ecv⟩ : ∃ v, chk28 ⟨fd, fu, fs, fk, fa, fb⟩ wd = v := ⟨_, rfl⟩
      rw [ecv] at CK SKE
      obtain ⟨bt, ebt⟩ : ∃ b, bitB ls num = b := ⟨_, rfl⟩
      simp only at NM
      rw [ebt] at NM SKE
      simp only [lCells, sCells] at NM FC
      have SE := Lib.hid SKE
      have KP := Lib.hid (show wp.cell? ⟨w.heap.size + 1, 0, none⟩ = some (.int .i64 dl) ∧ wp.cell? ⟨w.heap.size + 1, 1, none⟩ = some (.int .i64 ls) ∧ wp.cell? ⟨w.heap.size + 1, 2, none⟩ = some (.slice (some ⟨bd, offd, none⟩) due.length dc) ∧ wp.cell? ⟨w.heap.size + 1, 3, none⟩ = some (.int .i64 se) ∧ wp.cell? ⟨w.heap.size + 1, 4, none⟩ = some (.int .i64 ki) ∧ wp.cell? ⟨w.heap.size + 1, 5, none⟩ = some (.int .i64 ar) ∧ wp.cell? ⟨w.heap.size + 1, 6, none⟩ = some (.int .i64 bo) ∧ wp.cell? ⟨w.heap.size, 0, none⟩ = some (.slice (some ⟨b, off, none⟩) sch.length sc) ∧ wp.cell? ⟨w.heap.size, 9, none⟩ = some (.int .i64 wd) from ⟨(hb.cell (p := ⟨w.heap.size + 1, 0, none⟩) S2.out).trans PW.out.1, (hb.cell (p := ⟨w.heap.size + 1, 1, none⟩) S2.out).trans PW.out.2.1, (hb.cell (p := ⟨w.heap.size + 1, 2, none⟩) S2.out).trans PW.out.2.2.1, (hb.cell (p := ⟨w.heap.size + 1, 3, none⟩) S2.out).trans PW.out.2.2.2.1, (hb.cell (p := ⟨w.heap.size + 1, 4, none⟩) S2.out).trans PW.out.2.2.2.2.1, (hb.cell (p := ⟨w.heap.size + 1, 5, none⟩) S2.out).trans PW.out.2.2.2.2.2.1, (hb.cell (p := ⟨w.heap.size + 1, 6, none⟩) S2.out).trans PW.out.2.2.2.2.2.2.1, (hb.cell (p := ⟨w.heap.size, 0, none⟩) S1.out).trans PW.out.2.2.2.2.2.2.2.1, (hb.cell (p := ⟨w.heap.size, 9, none⟩) S1.out).trans PW.out.2.2.2.2.2.2.2.2⟩)
      have hwa := (Below.refl wp.heap.size wp).alloc (Nat.le_refl _) (.cells #[.int .i64 num, .string nm, .int .i64 o, .int .i64 tn, .int .i64 tm, .slice tq tl tz, .slice bp bn bc, .int .i64 least, .int .i64 ex, .bool needs] 101)
      have ca := World.cell?_alloc_new wp #[.int .i64 num, .string nm, .int .i64 o, .int .i64 tn, .int .i64 tm, .slice tq tl tz, .slice bp bn bc, .int .i64 least, .int .i64 ex, .bool needs] 101
      have T1 := Lib.hid (show w.heap.size < wp.heap.size from Nat.lt_of_lt_of_le S1.out hb.size)
      have T2 := Lib.hid (show w.heap.size + 1 < wp.heap.size from Nat.lt_of_lt_of_le S2.out hb.size)
      have T4 := Lib.hid (show bd < wp.heap.size from Nat.lt_of_lt_of_le hbd HBP.out.size)
      have KA := Lib.hid (show (wp.alloc (.cells #[.int .i64 num, .string nm, .int .i64 o, .int .i64 tn, .int .i64 tm, .slice tq tl tz, .slice bp bn bc, .int .i64 least, .int .i64 ex, .bool needs] 101)).cell? ⟨w.heap.size + 1, 0, none⟩ = some (.int .i64 dl) ∧ (wp.alloc (.cells #[.int .i64 num, .string nm, .int .i64 o, .int .i64 tn, .int .i64 tm, .slice tq tl tz, .slice bp bn bc, .int .i64 least, .int .i64 ex, .bool needs] 101)).cell? ⟨w.heap.size + 1, 1, none⟩ = some (.int .i64 ls) ∧ (wp.alloc (.cells #[.int .i64 num, .string nm, .int .i64 o, .int .i64 tn, .int .i64 tm, .slice tq tl tz, .slice bp bn bc, .int .i64 least, .int .i64 ex, .bool needs] 101)).cell? ⟨w.heap.size + 1, 2, none⟩ = some (.slice (some ⟨bd, offd, none⟩) due.length dc) ∧ (wp.alloc (.cells #[.int .i64 num, .string nm, .int .i64 o, .int .i64 tn, .int .i64 tm, .slice tq tl tz, .slice bp bn bc, .int .i64 least, .int .i64 ex, .bool needs] 101)).cell? ⟨w.heap.size + 1, 3, none⟩ = some (.int .i64 se) ∧ (wp.alloc (.cells #[.int .i64 num, .string nm, .int .i64 o, .int .i64 tn, .int .i64 tm, .slice tq tl tz, .slice bp bn bc, .int .i64 least, .int .i64 ex, .bool needs] 101)).cell? ⟨w.heap.size + 1, 4, none⟩ = some (.int .i64 ki) ∧ (wp.alloc (.cells #[.int .i64 num, .string nm, .int .i64 o, .int .i64 tn, .int .i64 tm, .slice tq tl tz, .slice bp bn bc, .int .i64 least, .int .i64 ex, .bool needs] 101)).cell? ⟨w.heap.size + 1, 5, none⟩ = some (.int .i64 ar) ∧ (wp.alloc (.cells #[.int .i64 num, .string nm, .int .i64 o, .int .i64 tn, .int .i64 tm, .slice tq tl tz, .slice bp bn bc, .int .i64 least, .int .i64 ex, .bool needs] 101)).cell? ⟨w.heap.size + 1, 6, none⟩ = some (.int .i64 bo) ∧ (wp.alloc (.cells #[.int .i64 num, .string nm, .int .i64 o, .int .i64 tn, .int .i64 tm, .slice tq tl tz, .slice bp bn bc, .int .i64 least, .int .i64 ex, .bool needs] 101)).cell? ⟨w.heap.size, 0, none⟩ = some (.slice (some ⟨b, off, none⟩) sch.length sc) ∧ (wp.alloc (.cells #[.int .i64 num, .string nm, .int .i64 o, .int .i64 tn, .int .i64 tm, .slice tq tl tz, .slice bp bn bc, .int .i64 least, .int .i64 ex, .bool needs] 101)).cell? ⟨w.heap.size, 9, none⟩ = some (.int .i64 wd) ∧ (wp.alloc (.cells #[.int .i64 num, .string nm, .int .i64 o, .int .i64 tn, .int .i64 tm, .slice tq tl tz, .slice bp bn bc, .int .i64 least, .int .i64 ex, .bool needs] 101)).cell? ⟨wp.heap.size, 0, none⟩ = some (.int .i64 num) ∧ (wp.alloc (.cells #[.int .i64 num, .string nm, .int .i64 o, .int .i64 tn, .int .i64 tm, .slice tq tl tz, .slice bp bn bc, .int .i64 least, .int .i64 ex, .bool needs] 101)).cell? ⟨wp.heap.size, 1, none⟩ = some (.string nm) ∧ (wp.alloc (.cells #[.int .i64 num, .string nm, .int .i64 o, .int .i64 tn, .int .i64 tm, .slice tq tl tz, .slice bp bn bc, .int .i64 least, .int .i64 ex, .bool needs] 101)).cell? ⟨wp.heap.size, 2, none⟩ = some (.int .i64 o) ∧ (wp.alloc (.cells #[.int .i64 num, .string nm, .int .i64 o, .int .i64 tn, .int .i64 tm, .slice tq tl tz, .slice bp bn bc, .int .i64 least, .int .i64 ex, .bool needs] 101)).cell? ⟨wp.heap.size, 3, none⟩ = some (.int .i64 tn) ∧ (wp.alloc (.cells #[.int .i64 num, .string nm, .int .i64 o, .int .i64 tn, .int .i64 tm, .slice tq tl tz, .slice bp bn bc, .int .i64 least, .int .i64 ex, .bool needs] 101)).cell? ⟨wp.heap.size, 4, none⟩ = some (.int .i64 tm) ∧ (wp.alloc (.cells #[.int .i64 num, .string nm, .int .i64 o, .int .i64 tn, .int .i64 tm, .slice tq tl tz, .slice bp bn bc, .int .i64 least, .int .i64 ex, .bool needs] 101)).cell? ⟨wp.heap.size, 5, none⟩ = some (.slice tq tl tz) ∧ (wp.alloc (.cells #[.int .i64 num, .string nm, .int .i64 o, .int .i64 tn, .int .i64 tm, .slice tq tl tz, .slice bp bn bc, .int .i64 least, .int .i64 ex, .bool needs] 101)).cell? ⟨wp.heap.size, 6, none⟩ = some (.slice bp bn bc) ∧ (wp.alloc (.cells #[.int .i64 num, .string nm, .int .i64 o, .int .i64 tn, .int .i64 tm, .slice tq tl tz, .slice bp bn bc, .int .i64 least, .int .i64 ex, .bool needs] 101)).cell? ⟨wp.heap.size, 7, none⟩ = some (.int .i64 least) ∧ (wp.alloc (.cells #[.int .i64 num, .string nm, .int .i64 o, .int .i64 tn, .int .i64 tm, .slice tq tl tz, .slice bp bn bc, .int .i64 least, .int .i64 ex, .bool needs] 101)).cell? ⟨wp.heap.size, 8, none⟩ = some (.int .i64 ex) ∧ (wp.alloc (.cells #[.int .i64 num, .string nm, .int .i64 o, .int .i64 tn, .int .i64 tm, .slice tq tl tz, .slice bp bn bc, .int .i64 least, .int .i64 ex, .bool needs] 101)).cell? ⟨wp.heap.size, 9, none⟩ = some (.bool needs) ∧ (wp.alloc (.cells #[.int .i64 num, .string nm, .int .i64 o, .int .i64 tn, .int .i64 tm, .slice tq tl tz, .slice bp bn bc, .int .i64 least, .int .i64 ex, .bool needs] 101)).cell? ⟨bd, offd + k, none⟩ = some (.int .i64 u) from ⟨(hwa.cell (p := ⟨w.heap.size + 1, 0, none⟩) T2.out).trans KP.out.1, (hwa.cell (p := ⟨w.heap.size + 1, 1, none⟩) T2.out).trans KP.out.2.1, (hwa.cell (p := ⟨w.heap.size + 1, 2, none⟩) T2.out).trans KP.out.2.2.1, (hwa.cell (p := ⟨w.heap.size + 1, 3, none⟩) T2.out).trans KP.out.2.2.2.1, (hwa.cell (p := ⟨w.heap.size + 1, 4, none⟩) T2.out).trans KP.out.2.2.2.2.1, (hwa.cell (p := ⟨w.heap.size + 1, 5, none⟩) T2.out).trans KP.out.2.2.2.2.2.1, (hwa.cell (p := ⟨w.heap.size + 1, 6, none⟩) T2.out).trans KP.out.2.2.2.2.2.2.1, (hwa.cell (p := ⟨w.heap.size, 0, none⟩) T1.out).trans KP.out.2.2.2.2.2.2.2.1, (hwa.cell (p := ⟨w.heap.size, 9, none⟩) T1.out).trans KP.out.2.2.2.2.2.2.2.2, ca 0, ca 1, ca 2, ca 3, ca 4, ca 5, ca 6, ca 7, ca 8, ca 9, (hwa.cell (p := ⟨bd, offd + k, none⟩) T4.out).trans hcd⟩)
      have KD := Lib.hid (show (wp.alloc (.cells #[.int .i64 num, .string nm, .int .i64 o, .int .i64 tn, .int .i64 tm, .slice tq tl tz, .slice bp bn bc, .int .i64 least, .int .i64 ex, .bool needs] 101)).drew.cell? ⟨w.heap.size + 1, 0, none⟩ = some (.int .i64 dl) ∧ (wp.alloc (.cells #[.int .i64 num, .string nm, .int .i64 o, .int .i64 tn, .int .i64 tm, .slice tq tl tz, .slice bp bn bc, .int .i64 least, .int .i64 ex, .bool needs] 101)).drew.cell? ⟨w.heap.size + 1, 1, none⟩ = some (.int .i64 ls) ∧ (wp.alloc (.cells #[.int .i64 num, .string nm, .int .i64 o, .int .i64 tn, .int .i64 tm, .slice tq tl tz, .slice bp bn bc, .int .i64 least, .int .i64 ex, .bool needs] 101)).drew.cell? ⟨w.heap.size + 1, 2, none⟩ = some (.slice (some ⟨bd, offd, none⟩) due.length dc) ∧ (wp.alloc (.cells #[.int .i64 num, .string nm, .int .i64 o, .int .i64 tn, .int .i64 tm, .slice tq tl tz, .slice bp bn bc, .int .i64 least, .int .i64 ex, .bool needs] 101)).drew.cell? ⟨w.heap.size + 1, 3, none⟩ = some (.int .i64 se) ∧ (wp.alloc (.cells #[.int .i64 num, .string nm, .int .i64 o, .int .i64 tn, .int .i64 tm, .slice tq tl tz, .slice bp bn bc, .int .i64 least, .int .i64 ex, .bool needs] 101)).drew.cell? ⟨w.heap.size + 1, 4, none⟩ = some (.int .i64 ki) ∧ (wp.alloc (.cells #[.int .i64 num, .string nm, .int .i64 o, .int .i64 tn, .int .i64 tm, .slice tq tl tz, .slice bp bn bc, .int .i64 least, .int .i64 ex, .bool needs] 101)).drew.cell? ⟨w.heap.size + 1, 5, none⟩ = some (.int .i64 ar) ∧ (wp.alloc (.cells #[.int .i64 num, .string nm, .int .i64 o, .int .i64 tn, .int .i64 tm, .slice tq tl tz, .slice bp bn bc, .int .i64 least, .int .i64 ex, .bool needs] 101)).drew.cell? ⟨w.heap.size + 1, 6, none⟩ = some (.int .i64 bo) ∧ (wp.alloc (.cells #[.int .i64 num, .string nm, .int .i64 o, .int .i64 tn, .int .i64 tm, .slice tq tl tz, .slice bp bn bc, .int .i64 least, .int .i64 ex, .bool needs] 101)).drew.cell? ⟨w.heap.size, 0, none⟩ = some (.slice (some ⟨b, off, none⟩) sch.length sc) ∧ (wp.alloc (.cells #[.int .i64 num, .string nm, .int .i64 o, .int .i64 tn, .int .i64 tm, .slice tq tl tz, .slice bp bn bc, .int .i64 least, .int .i64 ex, .bool needs] 101)).drew.cell? ⟨w.heap.size, 9, none⟩ = some (.int .i64 wd) ∧ (wp.alloc (.cells #[.int .i64 num, .string nm, .int .i64 o, .int .i64 tn, .int .i64 tm, .slice tq tl tz, .slice bp bn bc, .int .i64 least, .int .i64 ex, .bool needs] 101)).drew.cell? ⟨wp.heap.size, 0, none⟩ = some (.int .i64 num) ∧ (wp.alloc (.cells #[.int .i64 num, .string nm, .int .i64 o, .int .i64 tn, .int .i64 tm, .slice tq tl tz, .slice bp bn bc, .int .i64 least, .int .i64 ex, .bool needs] 101)).drew.cell? ⟨wp.heap.size, 1, none⟩ = some (.string nm) ∧ (wp.alloc (.cells #[.int .i64 num, .string nm, .int .i64 o, .int .i64 tn, .int .i64 tm, .slice tq tl tz, .slice bp bn bc, .int .i64 least, .int .i64 ex, .bool needs] 101)).drew.cell? ⟨wp.heap.size, 2, none⟩ = some (.int .i64 o) ∧ (wp.alloc (.cells #[.int .i64 num, .string nm, .int .i64 o, .int .i64 tn, .int .i64 tm, .slice tq tl tz, .slice bp bn bc, .int .i64 least, .int .i64 ex, .bool needs] 101)).drew.cell? ⟨wp.heap.size, 3, none⟩ = some (.int .i64 tn) ∧ (wp.alloc (.cells #[.int .i64 num, .string nm, .int .i64 o, .int .i64 tn, .int .i64 tm, .slice tq tl tz, .slice bp bn bc, .int .i64 least, .int .i64 ex, .bool needs] 101)).drew.cell? ⟨wp.heap.size, 4, none⟩ = some (.int .i64 tm) ∧ (wp.alloc (.cells #[.int .i64 num, .string nm, .int .i64 o, .int .i64 tn, .int .i64 tm, .slice tq tl tz, .slice bp bn bc, .int .i64 least, .int .i64 ex, .bool needs] 101)).drew.cell? ⟨wp.heap.size, 5, none⟩ = some (.slice tq tl tz) ∧ (wp.alloc (.cells #[.int .i64 num, .string nm, .int .i64 o, .int .i64 tn, .int .i64 tm, .slice tq tl tz, .slice bp bn bc, .int .i64 least, .int .i64 ex, .bool needs] 101)).drew.cell? ⟨wp.heap.size, 6, none⟩ = some (.slice bp bn bc) ∧ (wp.alloc (.cells #[.int .i64 num, .string nm, .int .i64 o, .int .i64 tn, .int .i64 tm, .slice tq tl tz, .slice bp bn bc, .int .i64 least, .int .i64 ex, .bool needs] 101)).drew.cell? ⟨wp.heap.size, 7, none⟩ = some (.int .i64 least) ∧ (wp.alloc (.cells #[.int .i64 num, .string nm, .int .i64 o, .int .i64 tn, .int .i64 tm, .slice tq tl tz, .slice bp bn bc, .int .i64 least, .int .i64 ex, .bool needs] 101)).drew.cell? ⟨wp.heap.size, 8, none⟩ = some (.int .i64 ex) ∧ (wp.alloc (.cells #[.int .i64 num, .string nm, .int .i64 o, .int .i64 tn, .int .i64 tm, .slice tq tl tz, .slice bp bn bc, .int .i64 least, .int .i64 ex, .bool needs] 101)).drew.cell? ⟨wp.heap.size, 9, none⟩ = some (.bool needs) ∧ (wp.alloc (.cells #[.int .i64 num, .string nm, .int .i64 o, .int .i64 tn, .int .i64 tm, .slice tq tl tz, .slice bp bn bc, .int .i64 least, .int .i64 ex, .bool needs] 101)).drew.cell? ⟨bd, offd + k, none⟩ = some (.int .i64 u) from KA.out)
      have HBX := Lib.hid (balloc (Nat.le_refl _) HBP.out (.cells #[.int .i64 num, .string nm, .int .i64 o, .int .i64 tn, .int .i64 tm, .slice tq tl tz, .slice bp bn bc, .int .i64 least, .int .i64 ex, .bool needs] 101))
      have U1 := Lib.hid (show w.heap.size < (wp.alloc (.cells #[.int .i64 num, .string nm, .int .i64 o, .int .i64 tn, .int .i64 tm, .slice tq tl tz, .slice bp bn bc, .int .i64 least, .int .i64 ex, .bool needs] 101)).heap.size by simp; have := T1.out; omega)
      have U2 := Lib.hid (show w.heap.size + 1 < (wp.alloc (.cells #[.int .i64 num, .string nm, .int .i64 o, .int .i64 tn, .int .i64 tm, .slice tq tl tz, .slice bp bn bc, .int .i64 least, .int .i64 ex, .bool needs] 101)).heap.size by simp; have := T2.out; omega)
      have U3 := Lib.hid (show wp.heap.size < (wp.alloc (.cells #[.int .i64 num, .string nm, .int .i64 o, .int .i64 tn, .int .i64 tm, .slice tq tl tz, .slice bp bn bc, .int .i64 least, .int .i64 ex, .bool needs] 101)).heap.size by simp)
      have U4 := Lib.hid (show bd < (wp.alloc (.cells #[.int .i64 num, .string nm, .int .i64 o, .int .i64 tn, .int .i64 tm, .slice tq tl tz, .slice bp bn bc, .int .i64 least, .int .i64 ex, .bool needs] 101)).heap.size by simp; have := T4.out; omega)
      have NOALL := Lib.hid (fun (h : SK k = false) => show (List.range sch.length).all SK = false from by rw [← Bool.not_eq_true, List.all_eq_true]; intro h2; rw [h2 k (List.mem_range.2 hlt)] at h; cases h)
      have HWX := Lib.hid (balloc (Nat.le_refl _) hb (.cells #[.int .i64 num, .string nm, .int .i64 o, .int .i64 tn, .int .i64 tm, .slice tq tl tz, .slice bp bn bc, .int .i64 least, .int .i64 ex, .bool needs] 101))
      clear SKE ecv ebt eu eF hwa ca hb hall hb15 hbl hbd hk hlt
      cases bt
      ·by_cases hu : u = 0
       ·have hu' : (u != 0) = false := by simp [hu]
        have OK := Lib.hid (show SK k = true from by rw [SE.out, if_neg (by decide)]; exact decide_eq_true hu)
        clear hu
        go_wp2_with fail
        refine wp_region_held_drew (S := fun w' => w'.cell? ⟨w.heap.size + 1, 0, none⟩ = some (.int .i64 dl) ∧ w'.cell? ⟨w.heap.size + 1, 1, none⟩ = some (.int .i64 ls) ∧ w'.cell? ⟨w.heap.size + 1, 2, none⟩ = some (.slice (some ⟨bd, offd, none⟩) due.length dc) ∧ w'.cell? ⟨w.heap.size + 1, 3, none⟩ = some (.int .i64 se) ∧ w'.cell? ⟨w.heap.size + 1, 4, none⟩ = some (.int .i64 ki) ∧ w'.cell? ⟨w.heap.size + 1, 5, none⟩ = some (.int .i64 ar) ∧ w'.cell? ⟨w.heap.size + 1, 6, none⟩ = some (.int .i64 bo) ∧ w'.cell? ⟨w.heap.size, 0, none⟩ = some (.slice (some ⟨b, off, none⟩) sch.length sc) ∧ w'.cell? ⟨w.heap.size, 9, none⟩ = some (.int .i64 wd) ∧ w'.cell? ⟨wp.heap.size, 0, none⟩ = some (.int .i64 num) ∧ w'.cell? ⟨wp.heap.size, 1, none⟩ = some (.string nm) ∧ w'.cell? ⟨wp.heap.size, 2, none⟩ = some (.int .i64 o) ∧ w'.cell? ⟨wp.heap.size, 3, none⟩ = some (.int .i64 tn) ∧ w'.cell? ⟨wp.heap.size, 4, none⟩ = some (.int .i64 tm) ∧ w'.cell? ⟨wp.heap.size, 5, none⟩ = some (.slice tq tl tz) ∧ w'.cell? ⟨wp.heap.size, 6, none⟩ = some (.slice bp bn bc) ∧ w'.cell? ⟨wp.heap.size, 7, none⟩ = some (.int .i64 least) ∧ w'.cell? ⟨wp.heap.size, 8, none⟩ = some (.int .i64 ex) ∧ w'.cell? ⟨wp.heap.size, 9, none⟩ = some (.bool needs) ∧ w'.cell? ⟨bd, offd + k, none⟩ = some (.int .i64 u)) (by kernel_rfl) KD.out (fun hHeld => ?_)
        refine wpAnyH_take (i := 0) (oi := ⟨some 55, _, _, _, _, _⟩) (v := ?va0_0) rfl (by kernel_rfl) (by kernel_rfl) (by kernel_rfl) (fun _ _ _ h => h) (Or.inl ⟨by kernel_rfl, ?ya0_0⟩) (by assumption) ?ra0_0
        case ya0_0 =>
         intro W0 hSw
         (try dsimp only at hSw)
         go_simp
         try with_reducible rfl
        simp only [Act.put, List.setIfInBounds_toArray, List.set_cons_zero, List.set_cons_succ]
        refine wpAnyH_take (i := 1) (oi := ⟨some 56, _, _, _, _, _⟩) (v := ?va0_1) rfl (by kernel_rfl) (by kernel_rfl) (by kernel_rfl) (fun _ _ _ h => h) (Or.inl ⟨by kernel_rfl, ?ya0_1⟩) (by assumption) ?ra0_1
        case ya0_1 =>
         intro W0 hSw
         (try dsimp only at hSw)
         go_simp
         try with_reducible rfl
        simp only [Act.put, List.setIfInBounds_toArray, List.set_cons_zero, List.set_cons_succ]
        refine wpAnyH_ready (rs := [2]) (by kernel_rfl) (by simp) ?_
        refine AllReadyH.cons (o := ⟨some 57, _, _, _, _, _⟩) rfl (fun K hK => ?_) AllReadyH.nil
        go_simp
        (with_reducible refine Calls.mono (NM.out _) ?_)
        rintro e w5 ⟨rfl, hb5⟩
        have HB5 := Lib.hid (bstep (Nat.le_refl _) HBX.out.drew hb5)
        have HC5 := Lib.hid (bstep (Nat.le_refl _) HWX.out.drew hb5)
        have K5 := Lib.hid (show w5.cell? ⟨w.heap.size + 1, 0, none⟩ = some (.int .i64 dl) ∧ w5.cell? ⟨w.heap.size + 1, 1, none⟩ = some (.int .i64 ls) ∧ w5.cell? ⟨w.heap.size + 1, 2, none⟩ = some (.slice (some ⟨bd, offd, none⟩) due.length dc) ∧ w5.cell? ⟨w.heap.size + 1, 3, none⟩ = some (.int .i64 se) ∧ w5.cell? ⟨w.heap.size + 1, 4, none⟩ = some (.int .i64 ki) ∧ w5.cell? ⟨w.heap.size + 1, 5, none⟩ = some (.int .i64 ar) ∧ w5.cell? ⟨w.heap.size + 1, 6, none⟩ = some (.int .i64 bo) ∧ w5.cell? ⟨w.heap.size, 0, none⟩ = some (.slice (some ⟨b, off, none⟩) sch.length sc) ∧ w5.cell? ⟨w.heap.size, 9, none⟩ = some (.int .i64 wd) ∧ w5.cell? ⟨wp.heap.size, 0, none⟩ = some (.int .i64 num) ∧ w5.cell? ⟨wp.heap.size, 1, none⟩ = some (.string nm) ∧ w5.cell? ⟨wp.heap.size, 2, none⟩ = some (.int .i64 o) ∧ w5.cell? ⟨wp.heap.size, 3, none⟩ = some (.int .i64 tn) ∧ w5.cell? ⟨wp.heap.size, 4, none⟩ = some (.int .i64 tm) ∧ w5.cell? ⟨wp.heap.size, 5, none⟩ = some (.slice tq tl tz) ∧ w5.cell? ⟨wp.heap.size, 6, none⟩ = some (.slice bp bn bc) ∧ w5.cell? ⟨wp.heap.size, 7, none⟩ = some (.int .i64 least) ∧ w5.cell? ⟨wp.heap.size, 8, none⟩ = some (.int .i64 ex) ∧ w5.cell? ⟨wp.heap.size, 9, none⟩ = some (.bool needs) ∧ w5.cell? ⟨bd, offd + k, none⟩ = some (.int .i64 u) from ⟨(hb5.cell (p := ⟨w.heap.size + 1, 0, none⟩) U2.out).trans KA.out.1, (hb5.cell (p := ⟨w.heap.size + 1, 1, none⟩) U2.out).trans KA.out.2.1, (hb5.cell (p := ⟨w.heap.size + 1, 2, none⟩) U2.out).trans KA.out.2.2.1, (hb5.cell (p := ⟨w.heap.size + 1, 3, none⟩) U2.out).trans KA.out.2.2.2.1, (hb5.cell (p := ⟨w.heap.size + 1, 4, none⟩) U2.out).trans KA.out.2.2.2.2.1, (hb5.cell (p := ⟨w.heap.size + 1, 5, none⟩) U2.out).trans KA.out.2.2.2.2.2.1, (hb5.cell (p := ⟨w.heap.size + 1, 6, none⟩) U2.out).trans KA.out.2.2.2.2.2.2.1, (hb5.cell (p := ⟨w.heap.size, 0, none⟩) U1.out).trans KA.out.2.2.2.2.2.2.2.1, (hb5.cell (p := ⟨w.heap.size, 9, none⟩) U1.out).trans KA.out.2.2.2.2.2.2.2.2.1, (hb5.cell (p := ⟨wp.heap.size, 0, none⟩) U3.out).trans KA.out.2.2.2.2.2.2.2.2.2.1, (hb5.cell (p := ⟨wp.heap.size, 1, none⟩) U3.out).trans KA.out.2.2.2.2.2.2.2.2.2.2.1, (hb5.cell (p := ⟨wp.heap.size, 2, none⟩) U3.out).trans KA.out.2.2.2.2.2.2.2.2.2.2.2.1, (hb5.cell (p := ⟨wp.heap.size, 3, none⟩) U3.out).trans KA.out.2.2.2.2.2.2.2.2.2.2.2.2.1, (hb5.cell (p := ⟨wp.heap.size, 4, none⟩) U3.out).trans KA.out.2.2.2.2.2.2.2.2.2.2.2.2.2.1, (hb5.cell (p := ⟨wp.heap.size, 5, none⟩) U3.out).trans KA.out.2.2.2.2.2.2.2.2.2.2.2.2.2.2.1, (hb5.cell (p := ⟨wp.heap.size, 6, none⟩) U3.out).trans KA.out.2.2.2.2.2.2.2.2.2.2.2.2.2.2.2.1, (hb5.cell (p := ⟨wp.heap.size, 7, none⟩) U3.out).trans KA.out.2.2.2.2.2.2.2.2.2.2.2.2.2.2.2.2.1, (hb5.cell (p := ⟨wp.heap.size, 8, none⟩) U3.out).trans KA.out.2.2.2.2.2.2.2.2.2.2.2.2.2.2.2.2.2.1, (hb5.cell (p := ⟨wp.heap.size, 9, none⟩) U3.out).trans KA.out.2.2.2.2.2.2.2.2.2.2.2.2.2.2.2.2.2.2.1, (hb5.cell (p := ⟨bd, offd + k, none⟩) U4.out).trans KA.out.2.2.2.2.2.2.2.2.2.2.2.2.2.2.2.2.2.2.2⟩)
        have V1 := Lib.hid (Nat.lt_of_lt_of_le U1.out hb5.size)
        have V2 := Lib.hid (Nat.lt_of_lt_of_le U2.out hb5.size)
        have V3 := Lib.hid (Nat.lt_of_lt_of_le U3.out hb5.size)
        have V4 := Lib.hid (Nat.lt_of_lt_of_le U4.out hb5.size)
        clear hb5
        go_wp2_with fail
        refine hK.out _ _ ?hSa0_2 (fun hHeld2 => ?_)
        case hSa0_2 => exact K5.out
        clear hK K
        refine wpAnyH_take (i := 3) (oi := ⟨some 58, _, _, _, _, _⟩) (v := ?va0_3) rfl (by kernel_rfl) (by kernel_rfl) (by kernel_rfl) (fun _ _ _ h => h) (Or.inl ⟨by kernel_rfl, ?ya0_3⟩) (by assumption) ?ra0_3
        case ya0_3 =>
         intro W0 hSw
         (try dsimp only at hSw)
         go_simp
         try with_reducible rfl
        simp only [Act.put, List.setIfInBounds_toArray, List.set_cons_zero, List.set_cons_succ]
        refine wpAnyH_take (i := 4) (oi := ⟨some 59, _, _, _, _, _⟩) (v := ?va0_4) rfl (by kernel_rfl) (by kernel_rfl) (by kernel_rfl) (fun _ _ _ h => h) (Or.inl ⟨by kernel_rfl, ?ya0_4⟩) (by assumption) ?ra0_4
        case ya0_4 =>
         intro W0 hSw
         (try dsimp only at hSw)
         go_simp
         try with_reducible rfl
        simp only [Act.put, List.setIfInBounds_toArray, List.set_cons_zero, List.set_cons_succ]
        refine wpAnyH_take (i := 5) (oi := ⟨some 60, _, _, _, _, _⟩) (v := ?va0_5) rfl (by kernel_rfl) (by kernel_rfl) (by kernel_rfl) (fun _ _ _ h => h) (Or.inl ⟨by kernel_rfl, ?ya0_5⟩) (by assumption) ?ra0_5
        case ya0_5 =>
         intro W0 hSw
         (try dsimp only at hSw)
         go_simp
         try with_reducible rfl
        simp only [Act.put, List.setIfInBounds_toArray, List.set_cons_zero, List.set_cons_succ]
        refine wpAnyH_take (i := 6) (oi := ⟨some 61, _, _, _, _, _⟩) (v := ?va0_6) rfl (by kernel_rfl) (by kernel_rfl) (by kernel_rfl) (fun _ _ _ h => h) (Or.inl ⟨by kernel_rfl, ?ya0_6⟩) (by assumption) ?ra0_6
        case ya0_6 =>
         intro W0 hSw
         (try dsimp only at hSw)
         go_simp
         try with_reducible rfl
        simp only [Act.put, List.setIfInBounds_toArray, List.set_cons_zero, List.set_cons_succ]
        refine wpAnyH_take (i := 7) (oi := ⟨some 62, _, _, _, _, _⟩) (v := ?va0_7) rfl (by kernel_rfl) (by kernel_rfl) (by kernel_rfl) (fun _ _ _ h => h) (Or.inl ⟨by kernel_rfl, ?ya0_7⟩) (by assumption) ?ra0_7
        case ya0_7 =>
         intro W0 hSw
         (try dsimp only at hSw)
         go_simp
         try with_reducible rfl
        simp only [Act.put, List.setIfInBounds_toArray, List.set_cons_zero, List.set_cons_succ]
        refine wpAnyH_take (i := 8) (oi := ⟨some 63, _, _, _, _, _⟩) (v := ?va0_8) rfl (by kernel_rfl) (by kernel_rfl) (by kernel_rfl) (fun _ _ _ h => h) (Or.inl ⟨by kernel_rfl, ?ya0_8⟩) (by assumption) ?ra0_8
        case ya0_8 =>
         intro W0 hSw
         (try dsimp only at hSw)
         go_simp
         try with_reducible rfl
        simp only [Act.put, List.setIfInBounds_toArray, List.set_cons_zero, List.set_cons_succ]
        refine wpAnyH_take (i := 9) (oi := ⟨some 64, _, _, _, _, _⟩) (v := ?va0_9) rfl (by kernel_rfl) (by kernel_rfl) (by kernel_rfl) (fun _ _ _ h => h) (Or.inl ⟨by kernel_rfl, ?ya0_9⟩) (by assumption) ?ra0_9
        case ya0_9 =>
         intro W0 hSw
         (try dsimp only at hSw)
         go_simp
         try with_reducible rfl
        simp only [Act.put, List.setIfInBounds_toArray, List.set_cons_zero, List.set_cons_succ]
        refine wpAnyH_take (i := 10) (oi := ⟨some 65, _, _, _, _, _⟩) (v := ?va0_10) rfl (by kernel_rfl) (by kernel_rfl) (by kernel_rfl) (fun _ _ _ h => h) (Or.inl ⟨by kernel_rfl, ?ya0_10⟩) (by assumption) ?ra0_10
        case ya0_10 =>
         intro W0 hSw
         (try dsimp only at hSw)
         go_simp
         try with_reducible rfl
        simp only [Act.put, List.setIfInBounds_toArray, List.set_cons_zero, List.set_cons_succ]
        refine wpAnyH_take (i := 11) (oi := ⟨some 66, _, _, _, _, _⟩) (v := ?va0_11) rfl (by kernel_rfl) (by kernel_rfl) (by kernel_rfl) (fun _ _ _ h => h) (Or.inl ⟨by kernel_rfl, ?ya0_11⟩) (by assumption) ?ra0_11
        case ya0_11 =>
         intro W0 hSw
         (try dsimp only at hSw)
         go_simp
         try with_reducible rfl
        simp only [Act.put, List.setIfInBounds_toArray, List.set_cons_zero, List.set_cons_succ]
        refine wpAnyH_take (i := 12) (oi := ⟨some 67, _, _, _, _, _⟩) (v := ?va0_12) rfl (by kernel_rfl) (by kernel_rfl) (by kernel_rfl) (fun _ _ _ h => h) (Or.inl ⟨by kernel_rfl, ?ya0_12⟩) (by assumption) ?ra0_12
        case ya0_12 =>
         intro W0 hSw
         (try dsimp only at hSw)
         go_simp
         try with_reducible rfl
        simp only [Act.put, List.setIfInBounds_toArray, List.set_cons_zero, List.set_cons_succ]
        refine wpAnyH_take (i := 13) (oi := ⟨some 68, _, _, _, _, _⟩) (v := ?va0_13) rfl (by kernel_rfl) (by kernel_rfl) (by kernel_rfl) (fun _ _ _ h => h) (Or.inl ⟨by kernel_rfl, ?ya0_13⟩) (by assumption) ?ra0_13
        case ya0_13 =>
         intro W0 hSw
         (try dsimp only at hSw)
         go_simp
         try with_reducible rfl
        simp only [Act.put, List.setIfInBounds_toArray, List.set_cons_zero, List.set_cons_succ]
        refine wpAnyH_take (i := 14) (oi := ⟨some 69, _, _, _, _, _⟩) (v := ?va0_14) rfl (by kernel_rfl) (by kernel_rfl) (by kernel_rfl) (fun _ _ _ h => h) (Or.inl ⟨by kernel_rfl, ?ya0_14⟩) (by assumption) ?ra0_14
        case ya0_14 =>
         intro W0 hSw
         (try dsimp only at hSw)
         go_simp
         try with_reducible rfl
        simp only [Act.put, List.setIfInBounds_toArray, List.set_cons_zero, List.set_cons_succ]
        refine wpAnyH_ready (rs := [15]) (by kernel_rfl) (by simp) ?_
        refine AllReadyH.cons (o := ⟨some 70, _, _, _, _, _⟩) rfl (fun K hK => ?_) AllReadyH.nil
        go_simp
        (with_reducible refine Calls.mono (NM.out _) ?_)
        rintro e w6 ⟨rfl, hb6⟩
        have HB6 := Lib.hid (bstep (Nat.le_refl _) HB5.out hb6)
        have HC6 := Lib.hid (bstep (Nat.le_refl _) HC5.out hb6)
        have K6 := Lib.hid (show w6.cell? ⟨w.heap.size + 1, 0, none⟩ = some (.int .i64 dl) ∧ w6.cell? ⟨w.heap.size + 1, 1, none⟩ = some (.int .i64 ls) ∧ w6.cell? ⟨w.heap.size + 1, 2, none⟩ = some (.slice (some ⟨bd, offd, none⟩) due.length dc) ∧ w6.cell? ⟨w.heap.size + 1, 3, none⟩ = some (.int .i64 se) ∧ w6.cell? ⟨w.heap.size + 1, 4, none⟩ = some (.int .i64 ki) ∧ w6.cell? ⟨w.heap.size + 1, 5, none⟩ = some (.int .i64 ar) ∧ w6.cell? ⟨w.heap.size + 1, 6, none⟩ = some (.int .i64 bo) ∧ w6.cell? ⟨w.heap.size, 0, none⟩ = some (.slice (some ⟨b, off, none⟩) sch.length sc) ∧ w6.cell? ⟨w.heap.size, 9, none⟩ = some (.int .i64 wd) ∧ w6.cell? ⟨wp.heap.size, 0, none⟩ = some (.int .i64 num) ∧ w6.cell? ⟨wp.heap.size, 1, none⟩ = some (.string nm) ∧ w6.cell? ⟨wp.heap.size, 2, none⟩ = some (.int .i64 o) ∧ w6.cell? ⟨wp.heap.size, 3, none⟩ = some (.int .i64 tn) ∧ w6.cell? ⟨wp.heap.size, 4, none⟩ = some (.int .i64 tm) ∧ w6.cell? ⟨wp.heap.size, 5, none⟩ = some (.slice tq tl tz) ∧ w6.cell? ⟨wp.heap.size, 6, none⟩ = some (.slice bp bn bc) ∧ w6.cell? ⟨wp.heap.size, 7, none⟩ = some (.int .i64 least) ∧ w6.cell? ⟨wp.heap.size, 8, none⟩ = some (.int .i64 ex) ∧ w6.cell? ⟨wp.heap.size, 9, none⟩ = some (.bool needs) ∧ w6.cell? ⟨bd, offd + k, none⟩ = some (.int .i64 u) from ⟨(hb6.cell (p := ⟨w.heap.size + 1, 0, none⟩) V2.out).trans K5.out.1, (hb6.cell (p := ⟨w.heap.size + 1, 1, none⟩) V2.out).trans K5.out.2.1, (hb6.cell (p := ⟨w.heap.size + 1, 2, none⟩) V2.out).trans K5.out.2.2.1, (hb6.cell (p := ⟨w.heap.size + 1, 3, none⟩) V2.out).trans K5.out.2.2.2.1, (hb6.cell (p := ⟨w.heap.size + 1, 4, none⟩) V2.out).trans K5.out.2.2.2.2.1, (hb6.cell (p := ⟨w.heap.size + 1, 5, none⟩) V2.out).trans K5.out.2.2.2.2.2.1, (hb6.cell (p := ⟨w.heap.size + 1, 6, none⟩) V2.out).trans K5.out.2.2.2.2.2.2.1, (hb6.cell (p := ⟨w.heap.size, 0, none⟩) V1.out).trans K5.out.2.2.2.2.2.2.2.1, (hb6.cell (p := ⟨w.heap.size, 9, none⟩) V1.out).trans K5.out.2.2.2.2.2.2.2.2.1, (hb6.cell (p := ⟨wp.heap.size, 0, none⟩) V3.out).trans K5.out.2.2.2.2.2.2.2.2.2.1, (hb6.cell (p := ⟨wp.heap.size, 1, none⟩) V3.out).trans K5.out.2.2.2.2.2.2.2.2.2.2.1, (hb6.cell (p := ⟨wp.heap.size, 2, none⟩) V3.out).trans K5.out.2.2.2.2.2.2.2.2.2.2.2.1, (hb6.cell (p := ⟨wp.heap.size, 3, none⟩) V3.out).trans K5.out.2.2.2.2.2.2.2.2.2.2.2.2.1, (hb6.cell (p := ⟨wp.heap.size, 4, none⟩) V3.out).trans K5.out.2.2.2.2.2.2.2.2.2.2.2.2.2.1, (hb6.cell (p := ⟨wp.heap.size, 5, none⟩) V3.out).trans K5.out.2.2.2.2.2.2.2.2.2.2.2.2.2.2.1, (hb6.cell (p := ⟨wp.heap.size, 6, none⟩) V3.out).trans K5.out.2.2.2.2.2.2.2.2.2.2.2.2.2.2.2.1, (hb6.cell (p := ⟨wp.heap.size, 7, none⟩) V3.out).trans K5.out.2.2.2.2.2.2.2.2.2.2.2.2.2.2.2.2.1, (hb6.cell (p := ⟨wp.heap.size, 8, none⟩) V3.out).trans K5.out.2.2.2.2.2.2.2.2.2.2.2.2.2.2.2.2.2.1, (hb6.cell (p := ⟨wp.heap.size, 9, none⟩) V3.out).trans K5.out.2.2.2.2.2.2.2.2.2.2.2.2.2.2.2.2.2.2.1, (hb6.cell (p := ⟨bd, offd + k, none⟩) V4.out).trans K5.out.2.2.2.2.2.2.2.2.2.2.2.2.2.2.2.2.2.2.2⟩)
        have X1 := Lib.hid (Nat.lt_of_lt_of_le V1.out hb6.size)
        have X2 := Lib.hid (Nat.lt_of_lt_of_le V2.out hb6.size)
        have X3 := Lib.hid (Nat.lt_of_lt_of_le V3.out hb6.size)
        have X4 := Lib.hid (Nat.lt_of_lt_of_le V4.out hb6.size)
        clear hb6
        go_wp2_with fail
        refine hK.out _ _ ?hSa0_15 (fun hHeld2 => ?_)
        case hSa0_15 => exact K6.out
        clear hK K
        refine wpAnyH_take (i := 16) (oi := ⟨some 71, _, _, _, _, _⟩) (v := ?va0_16) rfl (by kernel_rfl) (by kernel_rfl) (by kernel_rfl) (fun _ _ _ h => h) (Or.inl ⟨by kernel_rfl, ?ya0_16⟩) (by assumption) ?ra0_16
        case ya0_16 =>
         intro W0 hSw
         (try dsimp only at hSw)
         go_simp
         try with_reducible rfl
        simp only [Act.put, List.setIfInBounds_toArray, List.set_cons_zero, List.set_cons_succ]
        refine wpAnyH_take (i := 17) (oi := ⟨some 72, _, _, _, _, _⟩) (v := undef) rfl (by kernel_rfl) (by kernel_rfl) (by kernel_rfl) (fun _ _ _ h => h) (Or.inr ⟨by kernel_rfl, rfl⟩) (by assumption) ?_
        refine wpAnyH_take (i := 18) (oi := ⟨some 73, _, _, _, _, _⟩) (v := undef) rfl (by kernel_rfl) (by kernel_rfl) (by kernel_rfl) (fun _ _ _ h => h) (Or.inr ⟨by kernel_rfl, rfl⟩) (by assumption) ?_
        refine wpAnyH_take (i := 19) (oi := ⟨some 74, _, _, _, _, _⟩) (v := undef) rfl (by kernel_rfl) (by kernel_rfl) (by kernel_rfl) (fun _ _ _ h => h) (Or.inr ⟨by kernel_rfl, rfl⟩) (by assumption) ?_
        refine wpAnyH_take (i := 20) (oi := ⟨some 75, _, _, _, _, _⟩) (v := undef) rfl (by kernel_rfl) (by kernel_rfl) (by kernel_rfl) (fun _ _ _ h => h) (Or.inr ⟨by kernel_rfl, rfl⟩) (by assumption) ?_
        refine wpAnyH_take (i := 21) (oi := ⟨some 76, _, _, _, _, _⟩) (v := undef) rfl (by kernel_rfl) (by kernel_rfl) (by kernel_rfl) (fun _ _ _ h => h) (Or.inr ⟨by kernel_rfl, rfl⟩) (by assumption) ?_
        refine wpAnyH_take (i := 22) (oi := ⟨some 77, _, _, _, _, _⟩) (v := undef) rfl (by kernel_rfl) (by kernel_rfl) (by kernel_rfl) (fun _ _ _ h => h) (Or.inr ⟨by kernel_rfl, rfl⟩) (by assumption) ?_
        refine wpAnyH_take (i := 23) (oi := ⟨some 78, _, _, _, _, _⟩) (v := undef) rfl (by kernel_rfl) (by kernel_rfl) (by kernel_rfl) (fun _ _ _ h => h) (Or.inr ⟨by kernel_rfl, rfl⟩) (by assumption) ?_
        simp only [Act.put, List.setIfInBounds_toArray, List.set_cons_zero, List.set_cons_succ]
        refine wpAnyH_take (i := 24) (oi := ⟨some 79, _, _, _, _, _⟩) (v := ?va0_24) rfl (by kernel_rfl) (by kernel_rfl) (by kernel_rfl) (fun _ _ _ h => h) (Or.inl ⟨by kernel_rfl, ?ya0_24⟩) (by assumption) ?ra0_24
        case ya0_24 =>
         intro W0 hSw
         (try dsimp only at hSw)
         go_simp
         try with_reducible rfl
        simp only [Act.put, List.setIfInBounds_toArray, List.set_cons_zero, List.set_cons_succ]
        refine wpAnyH_take (i := 25) (oi := ⟨some 80, _, _, _, _, _⟩) (v := ?va0_25) rfl (by kernel_rfl) (by kernel_rfl) (by kernel_rfl) (fun _ _ _ h => h) (Or.inl ⟨by kernel_rfl, ?ya0_25⟩) (by assumption) ?ra0_25
        case ya0_25 =>
         intro W0 hSw
         (try dsimp only at hSw)
         go_simp
         try with_reducible rfl
        refine wpAnyH_done (by kernel_rfl) ?_ _
        go_wp2
        go_roundw
        case rel => exact ⟨k + 1, by omega, by go_num, fun j hj => by
         by_cases e : j = k
         ·subst e; exact OK.out
         ·exact HAL.out j (by omega), HC6.out⟩
        case measure => simp [intOf]; omega
       ·have hu' : (u != 0) = true := by simpa using hu
        have BAD := Lib.hid (show SK k = false from by rw [SE.out, if_neg (by decide)]; exact decide_eq_false hu)
        clear hu
        go_wp2_with fail
        refine wp_region_held_drew (S := fun w' => w'.cell? ⟨w.heap.size + 1, 0, none⟩ = some (.int .i64 dl) ∧ w'.cell? ⟨w.heap.size + 1, 1, none⟩ = some (.int .i64 ls) ∧ w'.cell? ⟨w.heap.size + 1, 2, none⟩ = some (.slice (some ⟨bd, offd, none⟩) due.length dc) ∧ w'.cell? ⟨w.heap.size + 1, 3, none⟩ = some (.int .i64 se) ∧ w'.cell? ⟨w.heap.size + 1, 4, none⟩ = some (.int .i64 ki) ∧ w'.cell? ⟨w.heap.size + 1, 5, none⟩ = some (.int .i64 ar) ∧ w'.cell? ⟨w.heap.size + 1, 6, none⟩ = some (.int .i64 bo) ∧ w'.cell? ⟨w.heap.size, 0, none⟩ = some (.slice (some ⟨b, off, none⟩) sch.length sc) ∧ w'.cell? ⟨w.heap.size, 9, none⟩ = some (.int .i64 wd) ∧ w'.cell? ⟨wp.heap.size, 0, none⟩ = some (.int .i64 num) ∧ w'.cell? ⟨wp.heap.size, 1, none⟩ = some (.string nm) ∧ w'.cell? ⟨wp.heap.size, 2, none⟩ = some (.int .i64 o) ∧ w'.cell? ⟨wp.heap.size, 3, none⟩ = some (.int .i64 tn) ∧ w'.cell? ⟨wp.heap.size, 4, none⟩ = some (.int .i64 tm) ∧ w'.cell? ⟨wp.heap.size, 5, none⟩ = some (.slice tq tl tz) ∧ w'.cell? ⟨wp.heap.size, 6, none⟩ = some (.slice bp bn bc) ∧ w'.cell? ⟨wp.heap.size, 7, none⟩ = some (.int .i64 least) ∧ w'.cell? ⟨wp.heap.size, 8, none⟩ = some (.int .i64 ex) ∧ w'.cell? ⟨wp.heap.size, 9, none⟩ = some (.bool needs) ∧ w'.cell? ⟨bd, offd + k, none⟩ = some (.int .i64 u)) (by kernel_rfl) KD.out (fun hHeld => ?_)
        refine wpAnyH_take (i := 0) (oi := ⟨some 55, _, _, _, _, _⟩) (v := ?vb0_0) rfl (by kernel_rfl) (by kernel_rfl) (by kernel_rfl) (fun _ _ _ h => h) (Or.inl ⟨by kernel_rfl, ?yb0_0⟩) (by assumption) ?rb0_0
        case yb0_0 =>
         intro W0 hSw
         (try dsimp only at hSw)
         go_simp
         try with_reducible rfl
        simp only [Act.put, List.setIfInBounds_toArray, List.set_cons_zero, List.set_cons_succ]
        refine wpAnyH_take (i := 1) (oi := ⟨some 56, _, _, _, _, _⟩) (v := ?vb0_1) rfl (by kernel_rfl) (by kernel_rfl) (by kernel_rfl) (fun _ _ _ h => h) (Or.inl ⟨by kernel_rfl, ?yb0_1⟩) (by assumption) ?rb0_1
        case yb0_1 =>
         intro W0 hSw
         (try dsimp only at hSw)
         go_simp
         try with_reducible rfl
        simp only [Act.put, List.setIfInBounds_toArray, List.set_cons_zero, List.set_cons_succ]
        refine wpAnyH_ready (rs := [2]) (by kernel_rfl) (by simp) ?_
        refine AllReadyH.cons (o := ⟨some 57, _, _, _, _, _⟩) rfl (fun K hK => ?_) AllReadyH.nil
        go_simp
        (with_reducible refine Calls.mono (NM.out _) ?_)
        rintro e w5 ⟨rfl, hb5⟩
        have HB5 := Lib.hid (bstep (Nat.le_refl _) HBX.out.drew hb5)
        have HC5 := Lib.hid (bstep (Nat.le_refl _) HWX.out.drew hb5)
        have K5 := Lib.hid (show w5.cell? ⟨w.heap.size + 1, 0, none⟩ = some (.int .i64 dl) ∧ w5.cell? ⟨w.heap.size + 1, 1, none⟩ = some (.int .i64 ls) ∧ w5.cell? ⟨w.heap.size + 1, 2, none⟩ = some (.slice (some ⟨bd, offd, none⟩) due.length dc) ∧ w5.cell? ⟨w.heap.size + 1, 3, none⟩ = some (.int .i64 se) ∧ w5.cell? ⟨w.heap.size + 1, 4, none⟩ = some (.int .i64 ki) ∧ w5.cell? ⟨w.heap.size + 1, 5, none⟩ = some (.int .i64 ar) ∧ w5.cell? ⟨w.heap.size + 1, 6, none⟩ = some (.int .i64 bo) ∧ w5.cell? ⟨w.heap.size, 0, none⟩ = some (.slice (some ⟨b, off, none⟩) sch.length sc) ∧ w5.cell? ⟨w.heap.size, 9, none⟩ = some (.int .i64 wd) ∧ w5.cell? ⟨wp.heap.size, 0, none⟩ = some (.int .i64 num) ∧ w5.cell? ⟨wp.heap.size, 1, none⟩ = some (.string nm) ∧ w5.cell? ⟨wp.heap.size, 2, none⟩ = some (.int .i64 o) ∧ w5.cell? ⟨wp.heap.size, 3, none⟩ = some (.int .i64 tn) ∧ w5.cell? ⟨wp.heap.size, 4, none⟩ = some (.int .i64 tm) ∧ w5.cell? ⟨wp.heap.size, 5, none⟩ = some (.slice tq tl tz) ∧ w5.cell? ⟨wp.heap.size, 6, none⟩ = some (.slice bp bn bc) ∧ w5.cell? ⟨wp.heap.size, 7, none⟩ = some (.int .i64 least) ∧ w5.cell? ⟨wp.heap.size, 8, none⟩ = some (.int .i64 ex) ∧ w5.cell? ⟨wp.heap.size, 9, none⟩ = some (.bool needs) ∧ w5.cell? ⟨bd, offd + k, none⟩ = some (.int .i64 u) from ⟨(hb5.cell (p := ⟨w.heap.size + 1, 0, none⟩) U2.out).trans KA.out.1, (hb5.cell (p := ⟨w.heap.size + 1, 1, none⟩) U2.out).trans KA.out.2.1, (hb5.cell (p := ⟨w.heap.size + 1, 2, none⟩) U2.out).trans KA.out.2.2.1, (hb5.cell (p := ⟨w.heap.size + 1, 3, none⟩) U2.out).trans KA.out.2.2.2.1, (hb5.cell (p := ⟨w.heap.size + 1, 4, none⟩) U2.out).trans KA.out.2.2.2.2.1, (hb5.cell (p := ⟨w.heap.size + 1, 5, none⟩) U2.out).trans KA.out.2.2.2.2.2.1, (hb5.cell (p := ⟨w.heap.size + 1, 6, none⟩) U2.out).trans KA.out.2.2.2.2.2.2.1, (hb5.cell (p := ⟨w.heap.size, 0, none⟩) U1.out).trans KA.out.2.2.2.2.2.2.2.1, (hb5.cell (p := ⟨w.heap.size, 9, none⟩) U1.out).trans KA.out.2.2.2.2.2.2.2.2.1, (hb5.cell (p := ⟨wp.heap.size, 0, none⟩) U3.out).trans KA.out.2.2.2.2.2.2.2.2.2.1, (hb5.cell (p := ⟨wp.heap.size, 1, none⟩) U3.out).trans KA.out.2.2.2.2.2.2.2.2.2.2.1, (hb5.cell (p := ⟨wp.heap.size, 2, none⟩) U3.out).trans KA.out.2.2.2.2.2.2.2.2.2.2.2.1, (hb5.cell (p := ⟨wp.heap.size, 3, none⟩) U3.out).trans KA.out.2.2.2.2.2.2.2.2.2.2.2.2.1, (hb5.cell (p := ⟨wp.heap.size, 4, none⟩) U3.out).trans KA.out.2.2.2.2.2.2.2.2.2.2.2.2.2.1, (hb5.cell (p := ⟨wp.heap.size, 5, none⟩) U3.out).trans KA.out.2.2.2.2.2.2.2.2.2.2.2.2.2.2.1, (hb5.cell (p := ⟨wp.heap.size, 6, none⟩) U3.out).trans KA.out.2.2.2.2.2.2.2.2.2.2.2.2.2.2.2.1, (hb5.cell (p := ⟨wp.heap.size, 7, none⟩) U3.out).trans KA.out.2.2.2.2.2.2.2.2.2.2.2.2.2.2.2.2.1, (hb5.cell (p := ⟨wp.heap.size, 8, none⟩) U3.out).trans KA.out.2.2.2.2.2.2.2.2.2.2.2.2.2.2.2.2.2.1, (hb5.cell (p := ⟨wp.heap.size, 9, none⟩) U3.out).trans KA.out.2.2.2.2.2.2.2.2.2.2.2.2.2.2.2.2.2.2.1, (hb5.cell (p := ⟨bd, offd + k, none⟩) U4.out).trans KA.out.2.2.2.2.2.2.2.2.2.2.2.2.2.2.2.2.2.2.2⟩)
        have V1 := Lib.hid (Nat.lt_of_lt_of_le U1.out hb5.size)
        have V2 := Lib.hid (Nat.lt_of_lt_of_le U2.out hb5.size)
        have V3 := Lib.hid (Nat.lt_of_lt_of_le U3.out hb5.size)
        have V4 := Lib.hid (Nat.lt_of_lt_of_le U4.out hb5.size)
        clear hb5
        go_wp2_with fail
        refine hK.out _ _ ?hSb0_2 (fun hHeld2 => ?_)
        case hSb0_2 => exact K5.out
        clear hK K
        refine wpAnyH_take (i := 3) (oi := ⟨some 58, _, _, _, _, _⟩) (v := ?vb0_3) rfl (by kernel_rfl) (by kernel_rfl) (by kernel_rfl) (fun _ _ _ h => h) (Or.inl ⟨by kernel_rfl, ?yb0_3⟩) (by assumption) ?rb0_3
        case yb0_3 =>
         intro W0 hSw
         (try dsimp only at hSw)
         go_simp
         try with_reducible rfl
        simp only [Act.put, List.setIfInBounds_toArray, List.set_cons_zero, List.set_cons_succ]
        refine wpAnyH_take (i := 4) (oi := ⟨some 59, _, _, _, _, _⟩) (v := ?vb0_4) rfl (by kernel_rfl) (by kernel_rfl) (by kernel_rfl) (fun _ _ _ h => h) (Or.inl ⟨by kernel_rfl, ?yb0_4⟩) (by assumption) ?rb0_4
        case yb0_4 =>
         intro W0 hSw
         (try dsimp only at hSw)
         go_simp
         try with_reducible rfl
        simp only [Act.put, List.setIfInBounds_toArray, List.set_cons_zero, List.set_cons_succ]
        refine wpAnyH_take (i := 5) (oi := ⟨some 60, _, _, _, _, _⟩) (v := ?vb0_5) rfl (by kernel_rfl) (by kernel_rfl) (by kernel_rfl) (fun _ _ _ h => h) (Or.inl ⟨by kernel_rfl, ?yb0_5⟩) (by assumption) ?rb0_5
        case yb0_5 =>
         intro W0 hSw
         (try dsimp only at hSw)
         go_simp
         try with_reducible rfl
        simp only [Act.put, List.setIfInBounds_toArray, List.set_cons_zero, List.set_cons_succ]
        refine wpAnyH_take (i := 6) (oi := ⟨some 61, _, _, _, _, _⟩) (v := ?vb0_6) rfl (by kernel_rfl) (by kernel_rfl) (by kernel_rfl) (fun _ _ _ h => h) (Or.inl ⟨by kernel_rfl, ?yb0_6⟩) (by assumption) ?rb0_6
        case yb0_6 =>
         intro W0 hSw
         (try dsimp only at hSw)
         go_simp
         try with_reducible rfl
        simp only [Act.put, List.setIfInBounds_toArray, List.set_cons_zero, List.set_cons_succ]
        refine wpAnyH_take (i := 7) (oi := ⟨some 62, _, _, _, _, _⟩) (v := ?vb0_7) rfl (by kernel_rfl) (by kernel_rfl) (by kernel_rfl) (fun _ _ _ h => h) (Or.inl ⟨by kernel_rfl, ?yb0_7⟩) (by assumption) ?rb0_7
        case yb0_7 =>
         intro W0 hSw
         (try dsimp only at hSw)
         go_simp
         try with_reducible rfl
        simp only [Act.put, List.setIfInBounds_toArray, List.set_cons_zero, List.set_cons_succ]
        refine wpAnyH_take (i := 8) (oi := ⟨some 63, _, _, _, _, _⟩) (v := ?vb0_8) rfl (by kernel_rfl) (by kernel_rfl) (by kernel_rfl) (fun _ _ _ h => h) (Or.inl ⟨by kernel_rfl, ?yb0_8⟩) (by assumption) ?rb0_8
        case yb0_8 =>
         intro W0 hSw
         (try dsimp only at hSw)
         go_simp
         try with_reducible rfl
        simp only [Act.put, List.setIfInBounds_toArray, List.set_cons_zero, List.set_cons_succ]
        refine wpAnyH_take (i := 9) (oi := ⟨some 64, _, _, _, _, _⟩) (v := ?vb0_9) rfl (by kernel_rfl) (by kernel_rfl) (by kernel_rfl) (fun _ _ _ h => h) (Or.inl ⟨by kernel_rfl, ?yb0_9⟩) (by assumption) ?rb0_9
        case yb0_9 =>
         intro W0 hSw
         (try dsimp only at hSw)
         go_simp
         try with_reducible rfl
        simp only [Act.put, List.setIfInBounds_toArray, List.set_cons_zero, List.set_cons_succ]
        refine wpAnyH_take (i := 10) (oi := ⟨some 65, _, _, _, _, _⟩) (v := ?vb0_10) rfl (by kernel_rfl) (by kernel_rfl) (by kernel_rfl) (fun _ _ _ h => h) (Or.inl ⟨by kernel_rfl, ?yb0_10⟩) (by assumption) ?rb0_10
        case yb0_10 =>
         intro W0 hSw
         (try dsimp only at hSw)
         go_simp
         try with_reducible rfl
        simp only [Act.put, List.setIfInBounds_toArray, List.set_cons_zero, List.set_cons_succ]
        refine wpAnyH_take (i := 11) (oi := ⟨some 66, _, _, _, _, _⟩) (v := ?vb0_11) rfl (by kernel_rfl) (by kernel_rfl) (by kernel_rfl) (fun _ _ _ h => h) (Or.inl ⟨by kernel_rfl, ?yb0_11⟩) (by assumption) ?rb0_11
        case yb0_11 =>
         intro W0 hSw
         (try dsimp only at hSw)
         go_simp
         try with_reducible rfl
        simp only [Act.put, List.setIfInBounds_toArray, List.set_cons_zero, List.set_cons_succ]
        refine wpAnyH_take (i := 12) (oi := ⟨some 67, _, _, _, _, _⟩) (v := ?vb0_12) rfl (by kernel_rfl) (by kernel_rfl) (by kernel_rfl) (fun _ _ _ h => h) (Or.inl ⟨by kernel_rfl, ?yb0_12⟩) (by assumption) ?rb0_12
        case yb0_12 =>
         intro W0 hSw
         (try dsimp only at hSw)
         go_simp
         try with_reducible rfl
        simp only [Act.put, List.setIfInBounds_toArray, List.set_cons_zero, List.set_cons_succ]
        refine wpAnyH_take (i := 13) (oi := ⟨some 68, _, _, _, _, _⟩) (v := undef) rfl (by kernel_rfl) (by kernel_rfl) (by kernel_rfl) (fun _ _ _ h => h) (Or.inr ⟨by kernel_rfl, rfl⟩) (by assumption) ?_
        refine wpAnyH_take (i := 14) (oi := ⟨some 69, _, _, _, _, _⟩) (v := undef) rfl (by kernel_rfl) (by kernel_rfl) (by kernel_rfl) (fun _ _ _ h => h) (Or.inr ⟨by kernel_rfl, rfl⟩) (by assumption) ?_
        refine wpAnyH_take (i := 15) (oi := ⟨some 70, _, _, _, _, _⟩) (v := undef) rfl (by kernel_rfl) (by kernel_rfl) (by kernel_rfl) (fun _ _ _ h => h) (Or.inr ⟨by kernel_rfl, rfl⟩) (by assumption) ?_
        refine wpAnyH_take (i := 16) (oi := ⟨some 71, _, _, _, _, _⟩) (v := undef) rfl (by kernel_rfl) (by kernel_rfl) (by kernel_rfl) (fun _ _ _ h => h) (Or.inr ⟨by kernel_rfl, rfl⟩) (by assumption) ?_
        refine wpAnyH_take (i := 17) (oi := ⟨some 72, _, _, _, _, _⟩) (v := undef) rfl (by kernel_rfl) (by kernel_rfl) (by kernel_rfl) (fun _ _ _ h => h) (Or.inr ⟨by kernel_rfl, rfl⟩) (by assumption) ?_
        refine wpAnyH_take (i := 18) (oi := ⟨some 73, _, _, _, _, _⟩) (v := undef) rfl (by kernel_rfl) (by kernel_rfl) (by kernel_rfl) (fun _ _ _ h => h) (Or.inr ⟨by kernel_rfl, rfl⟩) (by assumption) ?_
        refine wpAnyH_take (i := 19) (oi := ⟨some 74, _, _, _, _, _⟩) (v := undef) rfl (by kernel_rfl) (by kernel_rfl) (by kernel_rfl) (fun _ _ _ h => h) (Or.inr ⟨by kernel_rfl, rfl⟩) (by assumption) ?_
        refine wpAnyH_take (i := 20) (oi := ⟨some 75, _, _, _, _, _⟩) (v := undef) rfl (by kernel_rfl) (by kernel_rfl) (by kernel_rfl) (fun _ _ _ h => h) (Or.inr ⟨by kernel_rfl, rfl⟩) (by assumption) ?_
        refine wpAnyH_take (i := 21) (oi := ⟨some 76, _, _, _, _, _⟩) (v := undef) rfl (by kernel_rfl) (by kernel_rfl) (by kernel_rfl) (fun _ _ _ h => h) (Or.inr ⟨by kernel_rfl, rfl⟩) (by assumption) ?_
        refine wpAnyH_take (i := 22) (oi := ⟨some 77, _, _, _, _, _⟩) (v := undef) rfl (by kernel_rfl) (by kernel_rfl) (by kernel_rfl) (fun _ _ _ h => h) (Or.inr ⟨by kernel_rfl, rfl⟩) (by assumption) ?_
        refine wpAnyH_take (i := 23) (oi := ⟨some 78, _, _, _, _, _⟩) (v := undef) rfl (by kernel_rfl) (by kernel_rfl) (by kernel_rfl) (fun _ _ _ h => h) (Or.inr ⟨by kernel_rfl, rfl⟩) (by assumption) ?_
        refine wpAnyH_take (i := 24) (oi := ⟨some 79, _, _, _, _, _⟩) (v := undef) rfl (by kernel_rfl) (by kernel_rfl) (by kernel_rfl) (fun _ _ _ h => h) (Or.inr ⟨by kernel_rfl, rfl⟩) (by assumption) ?_
        simp only [Act.put, List.setIfInBounds_toArray, List.set_cons_zero, List.set_cons_succ]
        refine wpAnyH_take (i := 25) (oi := ⟨some 80, _, _, _, _, _⟩) (v := ?vb0_25) rfl (by kernel_rfl) (by kernel_rfl) (by kernel_rfl) (fun _ _ _ h => h) (Or.inl ⟨by kernel_rfl, ?yb0_25⟩) (by assumption) ?rb0_25
        case yb0_25 =>
         intro W0 hSw
         (try dsimp only at hSw)
         go_simp
         try with_reducible rfl
        refine wpAnyH_done (by kernel_rfl) ?_ _
        go_wp2
        go_ret
        exact ⟨by rw [EV.out, NOALL.out BAD.out]; rfl, HB5.out⟩
      ·by_cases hcv : cv = 0
       ·have hc' : (cv != 0) = false := by simp [hcv]
        have OK := Lib.hid (show SK k = true from by rw [SE.out, if_pos rfl]; exact decide_eq_true hcv)
        clear hcv
        go_wp2_with fail
        refine wp_region_held_drew (S := fun w' => w'.cell? ⟨w.heap.size + 1, 0, none⟩ = some (.int .i64 dl) ∧ w'.cell? ⟨w.heap.size + 1, 1, none⟩ = some (.int .i64 ls) ∧ w'.cell? ⟨w.heap.size + 1, 2, none⟩ = some (.slice (some ⟨bd, offd, none⟩) due.length dc) ∧ w'.cell? ⟨w.heap.size + 1, 3, none⟩ = some (.int .i64 se) ∧ w'.cell? ⟨w.heap.size + 1, 4, none⟩ = some (.int .i64 ki) ∧ w'.cell? ⟨w.heap.size + 1, 5, none⟩ = some (.int .i64 ar) ∧ w'.cell? ⟨w.heap.size + 1, 6, none⟩ = some (.int .i64 bo) ∧ w'.cell? ⟨w.heap.size, 0, none⟩ = some (.slice (some ⟨b, off, none⟩) sch.length sc) ∧ w'.cell? ⟨w.heap.size, 9, none⟩ = some (.int .i64 wd) ∧ w'.cell? ⟨wp.heap.size, 0, none⟩ = some (.int .i64 num) ∧ w'.cell? ⟨wp.heap.size, 1, none⟩ = some (.string nm) ∧ w'.cell? ⟨wp.heap.size, 2, none⟩ = some (.int .i64 o) ∧ w'.cell? ⟨wp.heap.size, 3, none⟩ = some (.int .i64 tn) ∧ w'.cell? ⟨wp.heap.size, 4, none⟩ = some (.int .i64 tm) ∧ w'.cell? ⟨wp.heap.size, 5, none⟩ = some (.slice tq tl tz) ∧ w'.cell? ⟨wp.heap.size, 6, none⟩ = some (.slice bp bn bc) ∧ w'.cell? ⟨wp.heap.size, 7, none⟩ = some (.int .i64 least) ∧ w'.cell? ⟨wp.heap.size, 8, none⟩ = some (.int .i64 ex) ∧ w'.cell? ⟨wp.heap.size, 9, none⟩ = some (.bool needs) ∧ w'.cell? ⟨bd, offd + k, none⟩ = some (.int .i64 u)) (by kernel_rfl) KD.out (fun hHeld => ?_)
        refine wpAnyH_take (i := 0) (oi := ⟨some 55, _, _, _, _, _⟩) (v := ?vc0_0) rfl (by kernel_rfl) (by kernel_rfl) (by kernel_rfl) (fun _ _ _ h => h) (Or.inl ⟨by kernel_rfl, ?yc0_0⟩) (by assumption) ?rc0_0
        case yc0_0 =>
         intro W0 hSw
         (try dsimp only at hSw)
         go_simp
         try with_reducible rfl
        simp only [Act.put, List.setIfInBounds_toArray, List.set_cons_zero, List.set_cons_succ]
        refine wpAnyH_take (i := 1) (oi := ⟨some 56, _, _, _, _, _⟩) (v := ?vc0_1) rfl (by kernel_rfl) (by kernel_rfl) (by kernel_rfl) (fun _ _ _ h => h) (Or.inl ⟨by kernel_rfl, ?yc0_1⟩) (by assumption) ?rc0_1
        case yc0_1 =>
         intro W0 hSw
         (try dsimp only at hSw)
         go_simp
         try with_reducible rfl
        simp only [Act.put, List.setIfInBounds_toArray, List.set_cons_zero, List.set_cons_succ]
        refine wpAnyH_ready (rs := [2]) (by kernel_rfl) (by simp) ?_
        refine AllReadyH.cons (o := ⟨some 57, _, _, _, _, _⟩) rfl (fun K hK => ?_) AllReadyH.nil
        go_simp
        (with_reducible refine Calls.mono (NM.out _) ?_)
        rintro e w5 ⟨rfl, hb5⟩
        have HB5 := Lib.hid (bstep (Nat.le_refl _) HBX.out.drew hb5)
        have HC5 := Lib.hid (bstep (Nat.le_refl _) HWX.out.drew hb5)
        have K5 := Lib.hid (show w5.cell? ⟨w.heap.size + 1, 0, none⟩ = some (.int .i64 dl) ∧ w5.cell? ⟨w.heap.size + 1, 1, none⟩ = some (.int .i64 ls) ∧ w5.cell? ⟨w.heap.size + 1, 2, none⟩ = some (.slice (some ⟨bd, offd, none⟩) due.length dc) ∧ w5.cell? ⟨w.heap.size + 1, 3, none⟩ = some (.int .i64 se) ∧ w5.cell? ⟨w.heap.size + 1, 4, none⟩ = some (.int .i64 ki) ∧ w5.cell? ⟨w.heap.size + 1, 5, none⟩ = some (.int .i64 ar) ∧ w5.cell? ⟨w.heap.size + 1, 6, none⟩ = some (.int .i64 bo) ∧ w5.cell? ⟨w.heap.size, 0, none⟩ = some (.slice (some ⟨b, off, none⟩) sch.length sc) ∧ w5.cell? ⟨w.heap.size, 9, none⟩ = some (.int .i64 wd) ∧ w5.cell? ⟨wp.heap.size, 0, none⟩ = some (.int .i64 num) ∧ w5.cell? ⟨wp.heap.size, 1, none⟩ = some (.string nm) ∧ w5.cell? ⟨wp.heap.size, 2, none⟩ = some (.int .i64 o) ∧ w5.cell? ⟨wp.heap.size, 3, none⟩ = some (.int .i64 tn) ∧ w5.cell? ⟨wp.heap.size, 4, none⟩ = some (.int .i64 tm) ∧ w5.cell? ⟨wp.heap.size, 5, none⟩ = some (.slice tq tl tz) ∧ w5.cell? ⟨wp.heap.size, 6, none⟩ = some (.slice bp bn bc) ∧ w5.cell? ⟨wp.heap.size, 7, none⟩ = some (.int .i64 least) ∧ w5.cell? ⟨wp.heap.size, 8, none⟩ = some (.int .i64 ex) ∧ w5.cell? ⟨wp.heap.size, 9, none⟩ = some (.bool needs) ∧ w5.cell? ⟨bd, offd + k, none⟩ = some (.int .i64 u) from ⟨(hb5.cell (p := ⟨w.heap.size + 1, 0, none⟩) U2.out).trans KA.out.1, (hb5.cell (p := ⟨w.heap.size + 1, 1, none⟩) U2.out).trans KA.out.2.1, (hb5.cell (p := ⟨w.heap.size + 1, 2, none⟩) U2.out).trans KA.out.2.2.1, (hb5.cell (p := ⟨w.heap.size + 1, 3, none⟩) U2.out).trans KA.out.2.2.2.1, (hb5.cell (p := ⟨w.heap.size + 1, 4, none⟩) U2.out).trans KA.out.2.2.2.2.1, (hb5.cell (p := ⟨w.heap.size + 1, 5, none⟩) U2.out).trans KA.out.2.2.2.2.2.1, (hb5.cell (p := ⟨w.heap.size + 1, 6, none⟩) U2.out).trans KA.out.2.2.2.2.2.2.1, (hb5.cell (p := ⟨w.heap.size, 0, none⟩) U1.out).trans KA.out.2.2.2.2.2.2.2.1, (hb5.cell (p := ⟨w.heap.size, 9, none⟩) U1.out).trans KA.out.2.2.2.2.2.2.2.2.1, (hb5.cell (p := ⟨wp.heap.size, 0, none⟩) U3.out).trans KA.out.2.2.2.2.2.2.2.2.2.1, (hb5.cell (p := ⟨wp.heap.size, 1, none⟩) U3.out).trans KA.out.2.2.2.2.2.2.2.2.2.2.1, (hb5.cell (p := ⟨wp.heap.size, 2, none⟩) U3.out).trans KA.out.2.2.2.2.2.2.2.2.2.2.2.1, (hb5.cell (p := ⟨wp.heap.size, 3, none⟩) U3.out).trans KA.out.2.2.2.2.2.2.2.2.2.2.2.2.1, (hb5.cell (p := ⟨wp.heap.size, 4, none⟩) U3.out).trans KA.out.2.2.2.2.2.2.2.2.2.2.2.2.2.1, (hb5.cell (p := ⟨wp.heap.size, 5, none⟩) U3.out).trans KA.out.2.2.2.2.2.2.2.2.2.2.2.2.2.2.1, (hb5.cell (p := ⟨wp.heap.size, 6, none⟩) U3.out).trans KA.out.2.2.2.2.2.2.2.2.2.2.2.2.2.2.2.1, (hb5.cell (p := ⟨wp.heap.size, 7, none⟩) U3.out).trans KA.out.2.2.2.2.2.2.2.2.2.2.2.2.2.2.2.2.1, (hb5.cell (p := ⟨wp.heap.size, 8, none⟩) U3.out).trans KA.out.2.2.2.2.2.2.2.2.2.2.2.2.2.2.2.2.2.1, (hb5.cell (p := ⟨wp.heap.size, 9, none⟩) U3.out).trans KA.out.2.2.2.2.2.2.2.2.2.2.2.2.2.2.2.2.2.2.1, (hb5.cell (p := ⟨bd, offd + k, none⟩) U4.out).trans KA.out.2.2.2.2.2.2.2.2.2.2.2.2.2.2.2.2.2.2.2⟩)
        have V1 := Lib.hid (Nat.lt_of_lt_of_le U1.out hb5.size)
        have V2 := Lib.hid (Nat.lt_of_lt_of_le U2.out hb5.size)
        have V3 := Lib.hid (Nat.lt_of_lt_of_le U3.out hb5.size)
        have V4 := Lib.hid (Nat.lt_of_lt_of_le U4.out hb5.size)
        clear hb5
        go_wp2_with fail
        refine hK.out _ _ ?hSc0_2 (fun hHeld2 => ?_)
        case hSc0_2 => exact K5.out
        clear hK K
        refine wpAnyH_take (i := 3) (oi := ⟨some 58, _, _, _, _, _⟩) (v := ?vc0_3) rfl (by kernel_rfl) (by kernel_rfl) (by kernel_rfl) (fun _ _ _ h => h) (Or.inl ⟨by kernel_rfl, ?yc0_3⟩) (by assumption) ?rc0_3
        case yc0_3 =>
         intro W0 hSw
         (try dsimp only at hSw)
         go_simp
         try with_reducible rfl
        simp only [Act.put, List.setIfInBounds_toArray, List.set_cons_zero, List.set_cons_succ]
        refine wpAnyH_take (i := 4) (oi := ⟨some 59, _, _, _, _, _⟩) (v := ?vc0_4) rfl (by kernel_rfl) (by kernel_rfl) (by kernel_rfl) (fun _ _ _ h => h) (Or.inl ⟨by kernel_rfl, ?yc0_4⟩) (by assumption) ?rc0_4
        case yc0_4 =>
         intro W0 hSw
         (try dsimp only at hSw)
         go_simp
         try with_reducible rfl
        simp only [Act.put, List.setIfInBounds_toArray, List.set_cons_zero, List.set_cons_succ]
        refine wpAnyH_take (i := 5) (oi := ⟨some 60, _, _, _, _, _⟩) (v := undef) rfl (by kernel_rfl) (by kernel_rfl) (by kernel_rfl) (fun _ _ _ h => h) (Or.inr ⟨by kernel_rfl, rfl⟩) (by assumption) ?_
        refine wpAnyH_take (i := 6) (oi := ⟨some 61, _, _, _, _, _⟩) (v := undef) rfl (by kernel_rfl) (by kernel_rfl) (by kernel_rfl) (fun _ _ _ h => h) (Or.inr ⟨by kernel_rfl, rfl⟩) (by assumption) ?_
        refine wpAnyH_take (i := 7) (oi := ⟨some 62, _, _, _, _, _⟩) (v := undef) rfl (by kernel_rfl) (by kernel_rfl) (by kernel_rfl) (fun _ _ _ h => h) (Or.inr ⟨by kernel_rfl, rfl⟩) (by assumption) ?_
        refine wpAnyH_take (i := 8) (oi := ⟨some 63, _, _, _, _, _⟩) (v := undef) rfl (by kernel_rfl) (by kernel_rfl) (by kernel_rfl) (fun _ _ _ h => h) (Or.inr ⟨by kernel_rfl, rfl⟩) (by assumption) ?_
        refine wpAnyH_take (i := 9) (oi := ⟨some 64, _, _, _, _, _⟩) (v := undef) rfl (by kernel_rfl) (by kernel_rfl) (by kernel_rfl) (fun _ _ _ h => h) (Or.inr ⟨by kernel_rfl, rfl⟩) (by assumption) ?_
        refine wpAnyH_take (i := 10) (oi := ⟨some 65, _, _, _, _, _⟩) (v := undef) rfl (by kernel_rfl) (by kernel_rfl) (by kernel_rfl) (fun _ _ _ h => h) (Or.inr ⟨by kernel_rfl, rfl⟩) (by assumption) ?_
        simp only [Act.put, List.setIfInBounds_toArray, List.set_cons_zero, List.set_cons_succ]
        refine wpAnyH_take (i := 11) (oi := ⟨some 66, _, _, _, _, _⟩) (v := ?vc0_11) rfl (by kernel_rfl) (by kernel_rfl) (by kernel_rfl) (fun _ _ _ h => h) (Or.inl ⟨by kernel_rfl, ?yc0_11⟩) (by assumption) ?rc0_11
        case yc0_11 =>
         intro W0 hSw
         (try dsimp only at hSw)
         go_simp
         try with_reducible rfl
        simp only [Act.put, List.setIfInBounds_toArray, List.set_cons_zero, List.set_cons_succ]
        refine wpAnyH_take (i := 12) (oi := ⟨some 67, _, _, _, _, _⟩) (v := ?vc0_12) rfl (by kernel_rfl) (by kernel_rfl) (by kernel_rfl) (fun _ _ _ h => h) (Or.inl ⟨by kernel_rfl, ?yc0_12⟩) (by assumption) ?rc0_12
        case yc0_12 =>
         intro W0 hSw
         (try dsimp only at hSw)
         go_simp
         try with_reducible rfl
        simp only [Act.put, List.setIfInBounds_toArray, List.set_cons_zero, List.set_cons_succ]
        refine wpAnyH_take (i := 13) (oi := ⟨some 68, _, _, _, _, _⟩) (v := ?vc0_13) rfl (by kernel_rfl) (by kernel_rfl) (by kernel_rfl) (fun _ _ _ h => h) (Or.inl ⟨by kernel_rfl, ?yc0_13⟩) (by assumption) ?rc0_13
        case yc0_13 =>
         intro W0 hSw
         (try dsimp only at hSw)
         go_simp
         try with_reducible rfl
        simp only [Act.put, List.setIfInBounds_toArray, List.set_cons_zero, List.set_cons_succ]
        refine wpAnyH_take (i := 14) (oi := ⟨some 69, _, _, _, _, _⟩) (v := ?vc0_14) rfl (by kernel_rfl) (by kernel_rfl) (by kernel_rfl) (fun _ _ _ h => h) (Or.inl ⟨by kernel_rfl, ?yc0_14⟩) (by assumption) ?rc0_14
        case yc0_14 =>
         intro W0 hSw
         (try dsimp only at hSw)
         go_simp
         try with_reducible rfl
        simp only [Act.put, List.setIfInBounds_toArray, List.set_cons_zero, List.set_cons_succ]
        refine wpAnyH_ready (rs := [15]) (by kernel_rfl) (by simp) ?_
        refine AllReadyH.cons (o := ⟨some 70, _, _, _, _, _⟩) rfl (fun K hK => ?_) AllReadyH.nil
        go_simp
        (with_reducible refine Calls.mono (NM.out _) ?_)
        rintro e w6 ⟨rfl, hb6⟩
        have HB6 := Lib.hid (bstep (Nat.le_refl _) HB5.out hb6)
        have HC6 := Lib.hid (bstep (Nat.le_refl _) HC5.out hb6)
        have K6 := Lib.hid (show w6.cell? ⟨w.heap.size + 1, 0, none⟩ = some (.int .i64 dl) ∧ w6.cell? ⟨w.heap.size + 1, 1, none⟩ = some (.int .i64 ls) ∧ w6.cell? ⟨w.heap.size + 1, 2, none⟩ = some (.slice (some ⟨bd, offd, none⟩) due.length dc) ∧ w6.cell? ⟨w.heap.size + 1, 3, none⟩ = some (.int .i64 se) ∧ w6.cell? ⟨w.heap.size + 1, 4, none⟩ = some (.int .i64 ki) ∧ w6.cell? ⟨w.heap.size + 1, 5, none⟩ = some (.int .i64 ar) ∧ w6.cell? ⟨w.heap.size + 1, 6, none⟩ = some (.int .i64 bo) ∧ w6.cell? ⟨w.heap.size, 0, none⟩ = some (.slice (some ⟨b, off, none⟩) sch.length sc) ∧ w6.cell? ⟨w.heap.size, 9, none⟩ = some (.int .i64 wd) ∧ w6.cell? ⟨wp.heap.size, 0, none⟩ = some (.int .i64 num) ∧ w6.cell? ⟨wp.heap.size, 1, none⟩ = some (.string nm) ∧ w6.cell? ⟨wp.heap.size, 2, none⟩ = some (.int .i64 o) ∧ w6.cell? ⟨wp.heap.size, 3, none⟩ = some (.int .i64 tn) ∧ w6.cell? ⟨wp.heap.size, 4, none⟩ = some (.int .i64 tm) ∧ w6.cell? ⟨wp.heap.size, 5, none⟩ = some (.slice tq tl tz) ∧ w6.cell? ⟨wp.heap.size, 6, none⟩ = some (.slice bp bn bc) ∧ w6.cell? ⟨wp.heap.size, 7, none⟩ = some (.int .i64 least) ∧ w6.cell? ⟨wp.heap.size, 8, none⟩ = some (.int .i64 ex) ∧ w6.cell? ⟨wp.heap.size, 9, none⟩ = some (.bool needs) ∧ w6.cell? ⟨bd, offd + k, none⟩ = some (.int .i64 u) from ⟨(hb6.cell (p := ⟨w.heap.size + 1, 0, none⟩) V2.out).trans K5.out.1, (hb6.cell (p := ⟨w.heap.size + 1, 1, none⟩) V2.out).trans K5.out.2.1, (hb6.cell (p := ⟨w.heap.size + 1, 2, none⟩) V2.out).trans K5.out.2.2.1, (hb6.cell (p := ⟨w.heap.size + 1, 3, none⟩) V2.out).trans K5.out.2.2.2.1, (hb6.cell (p := ⟨w.heap.size + 1, 4, none⟩) V2.out).trans K5.out.2.2.2.2.1, (hb6.cell (p := ⟨w.heap.size + 1, 5, none⟩) V2.out).trans K5.out.2.2.2.2.2.1, (hb6.cell (p := ⟨w.heap.size + 1, 6, none⟩) V2.out).trans K5.out.2.2.2.2.2.2.1, (hb6.cell (p := ⟨w.heap.size, 0, none⟩) V1.out).trans K5.out.2.2.2.2.2.2.2.1, (hb6.cell (p := ⟨w.heap.size, 9, none⟩) V1.out).trans K5.out.2.2.2.2.2.2.2.2.1, (hb6.cell (p := ⟨wp.heap.size, 0, none⟩) V3.out).trans K5.out.2.2.2.2.2.2.2.2.2.1, (hb6.cell (p := ⟨wp.heap.size, 1, none⟩) V3.out).trans K5.out.2.2.2.2.2.2.2.2.2.2.1, (hb6.cell (p := ⟨wp.heap.size, 2, none⟩) V3.out).trans K5.out.2.2.2.2.2.2.2.2.2.2.2.1, (hb6.cell (p := ⟨wp.heap.size, 3, none⟩) V3.out).trans K5.out.2.2.2.2.2.2.2.2.2.2.2.2.1, (hb6.cell (p := ⟨wp.heap.size, 4, none⟩) V3.out).trans K5.out.2.2.2.2.2.2.2.2.2.2.2.2.2.1, (hb6.cell (p := ⟨wp.heap.size, 5, none⟩) V3.out).trans K5.out.2.2.2.2.2.2.2.2.2.2.2.2.2.2.1, (hb6.cell (p := ⟨wp.heap.size, 6, none⟩) V3.out).trans K5.out.2.2.2.2.2.2.2.2.2.2.2.2.2.2.2.1, (hb6.cell (p := ⟨wp.heap.size, 7, none⟩) V3.out).trans K5.out.2.2.2.2.2.2.2.2.2.2.2.2.2.2.2.2.1, (hb6.cell (p := ⟨wp.heap.size, 8, none⟩) V3.out).trans K5.out.2.2.2.2.2.2.2.2.2.2.2.2.2.2.2.2.2.1, (hb6.cell (p := ⟨wp.heap.size, 9, none⟩) V3.out).trans K5.out.2.2.2.2.2.2.2.2.2.2.2.2.2.2.2.2.2.2.1, (hb6.cell (p := ⟨bd, offd + k, none⟩) V4.out).trans K5.out.2.2.2.2.2.2.2.2.2.2.2.2.2.2.2.2.2.2.2⟩)
        have X1 := Lib.hid (Nat.lt_of_lt_of_le V1.out hb6.size)
        have X2 := Lib.hid (Nat.lt_of_lt_of_le V2.out hb6.size)
        have X3 := Lib.hid (Nat.lt_of_lt_of_le V3.out hb6.size)
        have X4 := Lib.hid (Nat.lt_of_lt_of_le V4.out hb6.size)
        clear hb6
        go_wp2_with fail
        refine hK.out _ _ ?hSc0_15 (fun hHeld2 => ?_)
        case hSc0_15 => exact K6.out
        clear hK K
        refine wpAnyH_take (i := 16) (oi := ⟨some 71, _, _, _, _, _⟩) (v := ?vc0_16) rfl (by kernel_rfl) (by kernel_rfl) (by kernel_rfl) (fun _ _ _ h => h) (Or.inl ⟨by kernel_rfl, ?yc0_16⟩) (by assumption) ?rc0_16
        case yc0_16 =>
         intro W0 hSw
         (try dsimp only at hSw)
         go_simp
         try with_reducible rfl
        simp only [Act.put, List.setIfInBounds_toArray, List.set_cons_zero, List.set_cons_succ]
        refine wpAnyH_take (i := 17) (oi := ⟨some 72, _, _, _, _, _⟩) (v := ?vc0_17) rfl (by kernel_rfl) (by kernel_rfl) (by kernel_rfl) (fun _ _ _ h => h) (Or.inl ⟨by kernel_rfl, ?yc0_17⟩) (by assumption) ?rc0_17
        case yc0_17 =>
         intro W0 hSw
         (try dsimp only at hSw)
         go_simp
         try with_reducible rfl
        simp only [Act.put, List.setIfInBounds_toArray, List.set_cons_zero, List.set_cons_succ]
        refine wpAnyH_take (i := 18) (oi := ⟨some 73, _, _, _, _, _⟩) (v := ?vc0_18) rfl (by kernel_rfl) (by kernel_rfl) (by kernel_rfl) (fun _ _ _ h => h) (Or.inl ⟨by kernel_rfl, ?yc0_18⟩) (by assumption) ?rc0_18
        case yc0_18 =>
         intro W0 hSw
         (try dsimp only at hSw)
         go_simp
         try with_reducible rfl
        simp only [Act.put, List.setIfInBounds_toArray, List.set_cons_zero, List.set_cons_succ]
        refine wpAnyH_take (i := 20) (oi := ⟨some 75, _, _, _, _, _⟩) (v := ?vc0_20) rfl (by kernel_rfl) (by kernel_rfl) (by kernel_rfl) (fun _ _ _ h => h) (Or.inl ⟨by kernel_rfl, ?yc0_20⟩) (by assumption) ?rc0_20
        case yc0_20 =>
         intro W0 hSw
         (try dsimp only at hSw)
         go_simp
         try with_reducible rfl
        simp only [Act.put, List.setIfInBounds_toArray, List.set_cons_zero, List.set_cons_succ]
        refine wpAnyH_take (i := 21) (oi := ⟨some 76, _, _, _, _, _⟩) (v := ?vc0_21) rfl (by kernel_rfl) (by kernel_rfl) (by kernel_rfl) (fun _ _ _ h => h) (Or.inl ⟨by kernel_rfl, ?yc0_21⟩) (by assumption) ?rc0_21
        case yc0_21 =>
         intro W0 hSw
         (try dsimp only at hSw)
         go_simp
         try with_reducible rfl
        simp only [Act.put, List.setIfInBounds_toArray, List.set_cons_zero, List.set_cons_succ]
        refine wpAnyH_ready (rs := [19]) (by kernel_rfl) (by simp) ?_
        refine AllReadyH.cons (o := ⟨some 74, _, _, _, _, _⟩) rfl (fun K hK => ?_) AllReadyH.nil
        go_simp
        (with_reducible refine Calls.mono (FC.out _ HB6.out) ?_)
        rintro e w7 ⟨rfl, hb7⟩
        have HB7 := Lib.hid (bstep (Nat.le_refl _) HB6.out hb7)
        have HC7 := Lib.hid (bstep (Nat.le_refl _) HC6.out hb7)
        have K7 := Lib.hid (show w7.cell? ⟨w.heap.size + 1, 0, none⟩ = some (.int .i64 dl) ∧ w7.cell? ⟨w.heap.size + 1, 1, none⟩ = some (.int .i64 ls) ∧ w7.cell? ⟨w.heap.size + 1, 2, none⟩ = some (.slice (some ⟨bd, offd, none⟩) due.length dc) ∧ w7.cell? ⟨w.heap.size + 1, 3, none⟩ = some (.int .i64 se) ∧ w7.cell? ⟨w.heap.size + 1, 4, none⟩ = some (.int .i64 ki) ∧ w7.cell? ⟨w.heap.size + 1, 5, none⟩ = some (.int .i64 ar) ∧ w7.cell? ⟨w.heap.size + 1, 6, none⟩ = some (.int .i64 bo) ∧ w7.cell? ⟨w.heap.size, 0, none⟩ = some (.slice (some ⟨b, off, none⟩) sch.length sc) ∧ w7.cell? ⟨w.heap.size, 9, none⟩ = some (.int .i64 wd) ∧ w7.cell? ⟨wp.heap.size, 0, none⟩ = some (.int .i64 num) ∧ w7.cell? ⟨wp.heap.size, 1, none⟩ = some (.string nm) ∧ w7.cell? ⟨wp.heap.size, 2, none⟩ = some (.int .i64 o) ∧ w7.cell? ⟨wp.heap.size, 3, none⟩ = some (.int .i64 tn) ∧ w7.cell? ⟨wp.heap.size, 4, none⟩ = some (.int .i64 tm) ∧ w7.cell? ⟨wp.heap.size, 5, none⟩ = some (.slice tq tl tz) ∧ w7.cell? ⟨wp.heap.size, 6, none⟩ = some (.slice bp bn bc) ∧ w7.cell? ⟨wp.heap.size, 7, none⟩ = some (.int .i64 least) ∧ w7.cell? ⟨wp.heap.size, 8, none⟩ = some (.int .i64 ex) ∧ w7.cell? ⟨wp.heap.size, 9, none⟩ = some (.bool needs) ∧ w7.cell? ⟨bd, offd + k, none⟩ = some (.int .i64 u) from ⟨(hb7.cell (p := ⟨w.heap.size + 1, 0, none⟩) X2.out).trans K6.out.1, (hb7.cell (p := ⟨w.heap.size + 1, 1, none⟩) X2.out).trans K6.out.2.1, (hb7.cell (p := ⟨w.heap.size + 1, 2, none⟩) X2.out).trans K6.out.2.2.1, (hb7.cell (p := ⟨w.heap.size + 1, 3, none⟩) X2.out).trans K6.out.2.2.2.1, (hb7.cell (p := ⟨w.heap.size + 1, 4, none⟩) X2.out).trans K6.out.2.2.2.2.1, (hb7.cell (p := ⟨w.heap.size + 1, 5, none⟩) X2.out).trans K6.out.2.2.2.2.2.1, (hb7.cell (p := ⟨w.heap.size + 1, 6, none⟩) X2.out).trans K6.out.2.2.2.2.2.2.1, (hb7.cell (p := ⟨w.heap.size, 0, none⟩) X1.out).trans K6.out.2.2.2.2.2.2.2.1, (hb7.cell (p := ⟨w.heap.size, 9, none⟩) X1.out).trans K6.out.2.2.2.2.2.2.2.2.1, (hb7.cell (p := ⟨wp.heap.size, 0, none⟩) X3.out).trans K6.out.2.2.2.2.2.2.2.2.2.1, (hb7.cell (p := ⟨wp.heap.size, 1, none⟩) X3.out).trans K6.out.2.2.2.2.2.2.2.2.2.2.1, (hb7.cell (p := ⟨wp.heap.size, 2, none⟩) X3.out).trans K6.out.2.2.2.2.2.2.2.2.2.2.2.1, (hb7.cell (p := ⟨wp.heap.size, 3, none⟩) X3.out).trans K6.out.2.2.2.2.2.2.2.2.2.2.2.2.1, (hb7.cell (p := ⟨wp.heap.size, 4, none⟩) X3.out).trans K6.out.2.2.2.2.2.2.2.2.2.2.2.2.2.1, (hb7.cell (p := ⟨wp.heap.size, 5, none⟩) X3.out).trans K6.out.2.2.2.2.2.2.2.2.2.2.2.2.2.2.1, (hb7.cell (p := ⟨wp.heap.size, 6, none⟩) X3.out).trans K6.out.2.2.2.2.2.2.2.2.2.2.2.2.2.2.2.1, (hb7.cell (p := ⟨wp.heap.size, 7, none⟩) X3.out).trans K6.out.2.2.2.2.2.2.2.2.2.2.2.2.2.2.2.2.1, (hb7.cell (p := ⟨wp.heap.size, 8, none⟩) X3.out).trans K6.out.2.2.2.2.2.2.2.2.2.2.2.2.2.2.2.2.2.1, (hb7.cell (p := ⟨wp.heap.size, 9, none⟩) X3.out).trans K6.out.2.2.2.2.2.2.2.2.2.2.2.2.2.2.2.2.2.2.1, (hb7.cell (p := ⟨bd, offd + k, none⟩) X4.out).trans K6.out.2.2.2.2.2.2.2.2.2.2.2.2.2.2.2.2.2.2.2⟩)
        have Y1 := Lib.hid (Nat.lt_of_lt_of_le X1.out hb7.size)
        have Y2 := Lib.hid (Nat.lt_of_lt_of_le X2.out hb7.size)
        have Y3 := Lib.hid (Nat.lt_of_lt_of_le X3.out hb7.size)
        have Y4 := Lib.hid (Nat.lt_of_lt_of_le X4.out hb7.size)
        clear hb7
        go_wp2_with fail
        refine hK.out _ _ ?hSc0_19 (fun hHeld2 => ?_)
        case hSc0_19 => exact K7.out
        clear hK K
        refine wpAnyH_ready (rs := [22]) (by kernel_rfl) (by simp) ?_
        refine AllReadyH.cons (o := ⟨some 77, _, _, _, _, _⟩) rfl (fun K hK => ?_) AllReadyH.nil
        go_simp
        (with_reducible refine Calls.mono (CK.out _) ?_)
        rintro e w8 ⟨rfl, hb8⟩
        have HB8 := Lib.hid (bstep (Nat.le_refl _) HB7.out hb8)
        have HC8 := Lib.hid (bstep (Nat.le_refl _) HC7.out hb8)
        have K8 := Lib.hid (show w8.cell? ⟨w.heap.size + 1, 0, none⟩ = some (.int .i64 dl) ∧ w8.cell? ⟨w.heap.size + 1, 1, none⟩ = some (.int .i64 ls) ∧ w8.cell? ⟨w.heap.size + 1, 2, none⟩ = some (.slice (some ⟨bd, offd, none⟩) due.length dc) ∧ w8.cell? ⟨w.heap.size + 1, 3, none⟩ = some (.int .i64 se) ∧ w8.cell? ⟨w.heap.size + 1, 4, none⟩ = some (.int .i64 ki) ∧ w8.cell? ⟨w.heap.size + 1, 5, none⟩ = some (.int .i64 ar) ∧ w8.cell? ⟨w.heap.size + 1, 6, none⟩ = some (.int .i64 bo) ∧ w8.cell? ⟨w.heap.size, 0, none⟩ = some (.slice (some ⟨b, off, none⟩) sch.length sc) ∧ w8.cell? ⟨w.heap.size, 9, none⟩ = some (.int .i64 wd) ∧ w8.cell? ⟨wp.heap.size, 0, none⟩ = some (.int .i64 num) ∧ w8.cell? ⟨wp.heap.size, 1, none⟩ = some (.string nm) ∧ w8.cell? ⟨wp.heap.size, 2, none⟩ = some (.int .i64 o) ∧ w8.cell? ⟨wp.heap.size, 3, none⟩ = some (.int .i64 tn) ∧ w8.cell? ⟨wp.heap.size, 4, none⟩ = some (.int .i64 tm) ∧ w8.cell? ⟨wp.heap.size, 5, none⟩ = some (.slice tq tl tz) ∧ w8.cell? ⟨wp.heap.size, 6, none⟩ = some (.slice bp bn bc) ∧ w8.cell? ⟨wp.heap.size, 7, none⟩ = some (.int .i64 least) ∧ w8.cell? ⟨wp.heap.size, 8, none⟩ = some (.int .i64 ex) ∧ w8.cell? ⟨wp.heap.size, 9, none⟩ = some (.bool needs) ∧ w8.cell? ⟨bd, offd + k, none⟩ = some (.int .i64 u) from ⟨(hb8.cell (p := ⟨w.heap.size + 1, 0, none⟩) Y2.out).trans K7.out.1, (hb8.cell (p := ⟨w.heap.size + 1, 1, none⟩) Y2.out).trans K7.out.2.1, (hb8.cell (p := ⟨w.heap.size + 1, 2, none⟩) Y2.out).trans K7.out.2.2.1, (hb8.cell (p := ⟨w.heap.size + 1, 3, none⟩) Y2.out).trans K7.out.2.2.2.1, (hb8.cell (p := ⟨w.heap.size + 1, 4, none⟩) Y2.out).trans K7.out.2.2.2.2.1, (hb8.cell (p := ⟨w.heap.size + 1, 5, none⟩) Y2.out).trans K7.out.2.2.2.2.2.1, (hb8.cell (p := ⟨w.heap.size + 1, 6, none⟩) Y2.out).trans K7.out.2.2.2.2.2.2.1, (hb8.cell (p := ⟨w.heap.size, 0, none⟩) Y1.out).trans K7.out.2.2.2.2.2.2.2.1, (hb8.cell (p := ⟨w.heap.size, 9, none⟩) Y1.out).trans K7.out.2.2.2.2.2.2.2.2.1, (hb8.cell (p := ⟨wp.heap.size, 0, none⟩) Y3.out).trans K7.out.2.2.2.2.2.2.2.2.2.1, (hb8.cell (p := ⟨wp.heap.size, 1, none⟩) Y3.out).trans K7.out.2.2.2.2.2.2.2.2.2.2.1, (hb8.cell (p := ⟨wp.heap.size, 2, none⟩) Y3.out).trans K7.out.2.2.2.2.2.2.2.2.2.2.2.1, (hb8.cell (p := ⟨wp.heap.size, 3, none⟩) Y3.out).trans K7.out.2.2.2.2.2.2.2.2.2.2.2.2.1, (hb8.cell (p := ⟨wp.heap.size, 4, none⟩) Y3.out).trans K7.out.2.2.2.2.2.2.2.2.2.2.2.2.2.1, (hb8.cell (p := ⟨wp.heap.size, 5, none⟩) Y3.out).trans K7.out.2.2.2.2.2.2.2.2.2.2.2.2.2.2.1, (hb8.cell (p := ⟨wp.heap.size, 6, none⟩) Y3.out).trans K7.out.2.2.2.2.2.2.2.2.2.2.2.2.2.2.2.1, (hb8.cell (p := ⟨wp.heap.size, 7, none⟩) Y3.out).trans K7.out.2.2.2.2.2.2.2.2.2.2.2.2.2.2.2.2.1, (hb8.cell (p := ⟨wp.heap.size, 8, none⟩) Y3.out).trans K7.out.2.2.2.2.2.2.2.2.2.2.2.2.2.2.2.2.2.1, (hb8.cell (p := ⟨wp.heap.size, 9, none⟩) Y3.out).trans K7.out.2.2.2.2.2.2.2.2.2.2.2.2.2.2.2.2.2.2.1, (hb8.cell (p := ⟨bd, offd + k, none⟩) Y4.out).trans K7.out.2.2.2.2.2.2.2.2.2.2.2.2.2.2.2.2.2.2.2⟩)
        have Z1 := Lib.hid (Nat.lt_of_lt_of_le Y1.out hb8.size)
        have Z2 := Lib.hid (Nat.lt_of_lt_of_le Y2.out hb8.size)
        have Z3 := Lib.hid (Nat.lt_of_lt_of_le Y3.out hb8.size)
        have Z4 := Lib.hid (Nat.lt_of_lt_of_le Y4.out hb8.size)
        clear hb8
        go_wp2_with fail
        refine hK.out _ _ ?hSc0_22 (fun hHeld2 => ?_)
        case hSc0_22 => exact K8.out
        clear hK K
        refine wpAnyH_take (i := 23) (oi := ⟨some 78, _, _, _, _, _⟩) (v := ?vc0_23) rfl (by kernel_rfl) (by kernel_rfl) (by kernel_rfl) (fun _ _ _ h => h) (Or.inl ⟨by kernel_rfl, ?yc0_23⟩) (by assumption) ?rc0_23
        case yc0_23 =>
         intro W0 hSw
         (try dsimp only at hSw)
         go_simp
         try with_reducible rfl
        simp only [Act.put, List.setIfInBounds_toArray, List.set_cons_zero, List.set_cons_succ]
        refine wpAnyH_take (i := 24) (oi := ⟨some 79, _, _, _, _, _⟩) (v := ?vc0_24) rfl (by kernel_rfl) (by kernel_rfl) (by kernel_rfl) (fun _ _ _ h => h) (Or.inl ⟨by kernel_rfl, ?yc0_24⟩) (by assumption) ?rc0_24
        case yc0_24 =>
         intro W0 hSw
         (try dsimp only at hSw)
         go_simp
         try with_reducible rfl
        simp only [Act.put, List.setIfInBounds_toArray, List.set_cons_zero, List.set_cons_succ]
        refine wpAnyH_take (i := 25) (oi := ⟨some 80, _, _, _, _, _⟩) (v := ?vc0_25) rfl (by kernel_rfl) (by kernel_rfl) (by kernel_rfl) (fun _ _ _ h => h) (Or.inl ⟨by kernel_rfl, ?yc0_25⟩) (by assumption) ?rc0_25
        case yc0_25 =>
         intro W0 hSw
         (try dsimp only at hSw)
         go_simp
         try with_reducible rfl
        refine wpAnyH_done (by kernel_rfl) ?_ _
        go_wp2
        go_roundw
        case rel => exact ⟨k + 1, by omega, by go_num, fun j hj => by
         by_cases e : j = k
         ·subst e; exact OK.out
         ·exact HAL.out j (by omega), HC8.out⟩
        case measure => simp [intOf]; omega
       ·have hc' : (cv != 0) = true := by simpa using hcv
        have BAD := Lib.hid (show SK k = false from by rw [SE.out, if_pos rfl]; exact decide_eq_false hcv)
        clear hcv
        go_wp2_with fail
        refine wp_region_held_drew (S := fun w' => w'.cell? ⟨w.heap.size + 1, 0, none⟩ = some (.int .i64 dl) ∧ w'.cell? ⟨w.heap.size + 1, 1, none⟩ = some (.int .i64 ls) ∧ w'.cell? ⟨w.heap.size + 1, 2, none⟩ = some (.slice (some ⟨bd, offd, none⟩) due.length dc) ∧ w'.cell? ⟨w.heap.size + 1, 3, none⟩ = some (.int .i64 se) ∧ w'.cell? ⟨w.heap.size + 1, 4, none⟩ = some (.int .i64 ki) ∧ w'.cell? ⟨w.heap.size + 1, 5, none⟩ = some (.int .i64 ar) ∧ w'.cell? ⟨w.heap.size + 1, 6, none⟩ = some (.int .i64 bo) ∧ w'.cell? ⟨w.heap.size, 0, none⟩ = some (.slice (some ⟨b, off, none⟩) sch.length sc) ∧ w'.cell? ⟨w.heap.size, 9, none⟩ = some (.int .i64 wd) ∧ w'.cell? ⟨wp.heap.size, 0, none⟩ = some (.int .i64 num) ∧ w'.cell? ⟨wp.heap.size, 1, none⟩ = some (.string nm) ∧ w'.cell? ⟨wp.heap.size, 2, none⟩ = some (.int .i64 o) ∧ w'.cell? ⟨wp.heap.size, 3, none⟩ = some (.int .i64 tn) ∧ w'.cell? ⟨wp.heap.size, 4, none⟩ = some (.int .i64 tm) ∧ w'.cell? ⟨wp.heap.size, 5, none⟩ = some (.slice tq tl tz) ∧ w'.cell? ⟨wp.heap.size, 6, none⟩ = some (.slice bp bn bc) ∧ w'.cell? ⟨wp.heap.size, 7, none⟩ = some (.int .i64 least) ∧ w'.cell? ⟨wp.heap.size, 8, none⟩ = some (.int .i64 ex) ∧ w'.cell? ⟨wp.heap.size, 9, none⟩ = some (.bool needs) ∧ w'.cell? ⟨bd, offd + k, none⟩ = some (.int .i64 u)) (by kernel_rfl) KD.out (fun hHeld => ?_)
        refine wpAnyH_take (i := 0) (oi := ⟨some 55, _, _, _, _, _⟩) (v := ?vd0_0) rfl (by kernel_rfl) (by kernel_rfl) (by kernel_rfl) (fun _ _ _ h => h) (Or.inl ⟨by kernel_rfl, ?yd0_0⟩) (by assumption) ?rd0_0
        case yd0_0 =>
         intro W0 hSw
         (try dsimp only at hSw)
         go_simp
         try with_reducible rfl
        simp only [Act.put, List.setIfInBounds_toArray, List.set_cons_zero, List.set_cons_succ]
        refine wpAnyH_take (i := 1) (oi := ⟨some 56, _, _, _, _, _⟩) (v := ?vd0_1) rfl (by kernel_rfl) (by kernel_rfl) (by kernel_rfl) (fun _ _ _ h => h) (Or.inl ⟨by kernel_rfl, ?yd0_1⟩) (by assumption) ?rd0_1
        case yd0_1 =>
         intro W0 hSw
         (try dsimp only at hSw)
         go_simp
         try with_reducible rfl
        simp only [Act.put, List.setIfInBounds_toArray, List.set_cons_zero, List.set_cons_succ]
        refine wpAnyH_ready (rs := [2]) (by kernel_rfl) (by simp) ?_
        refine AllReadyH.cons (o := ⟨some 57, _, _, _, _, _⟩) rfl (fun K hK => ?_) AllReadyH.nil
        go_simp
        (with_reducible refine Calls.mono (NM.out _) ?_)
        rintro e w5 ⟨rfl, hb5⟩
        have HB5 := Lib.hid (bstep (Nat.le_refl _) HBX.out.drew hb5)
        have HC5 := Lib.hid (bstep (Nat.le_refl _) HWX.out.drew hb5)
        have K5 := Lib.hid (show w5.cell? ⟨w.heap.size + 1, 0, none⟩ = some (.int .i64 dl) ∧ w5.cell? ⟨w.heap.size + 1, 1, none⟩ = some (.int .i64 ls) ∧ w5.cell? ⟨w.heap.size + 1, 2, none⟩ = some (.slice (some ⟨bd, offd, none⟩) due.length dc) ∧ w5.cell? ⟨w.heap.size + 1, 3, none⟩ = some (.int .i64 se) ∧ w5.cell? ⟨w.heap.size + 1, 4, none⟩ = some (.int .i64 ki) ∧ w5.cell? ⟨w.heap.size + 1, 5, none⟩ = some (.int .i64 ar) ∧ w5.cell? ⟨w.heap.size + 1, 6, none⟩ = some (.int .i64 bo) ∧ w5.cell? ⟨w.heap.size, 0, none⟩ = some (.slice (some ⟨b, off, none⟩) sch.length sc) ∧ w5.cell? ⟨w.heap.size, 9, none⟩ = some (.int .i64 wd) ∧ w5.cell? ⟨wp.heap.size, 0, none⟩ = some (.int .i64 num) ∧ w5.cell? ⟨wp.heap.size, 1, none⟩ = some (.string nm) ∧ w5.cell? ⟨wp.heap.size, 2, none⟩ = some (.int .i64 o) ∧ w5.cell? ⟨wp.heap.size, 3, none⟩ = some (.int .i64 tn) ∧ w5.cell? ⟨wp.heap.size, 4, none⟩ = some (.int .i64 tm) ∧ w5.cell? ⟨wp.heap.size, 5, none⟩ = some (.slice tq tl tz) ∧ w5.cell? ⟨wp.heap.size, 6, none⟩ = some (.slice bp bn bc) ∧ w5.cell? ⟨wp.heap.size, 7, none⟩ = some (.int .i64 least) ∧ w5.cell? ⟨wp.heap.size, 8, none⟩ = some (.int .i64 ex) ∧ w5.cell? ⟨wp.heap.size, 9, none⟩ = some (.bool needs) ∧ w5.cell? ⟨bd, offd + k, none⟩ = some (.int .i64 u) from ⟨(hb5.cell (p := ⟨w.heap.size + 1, 0, none⟩) U2.out).trans KA.out.1, (hb5.cell (p := ⟨w.heap.size + 1, 1, none⟩) U2.out).trans KA.out.2.1, (hb5.cell (p := ⟨w.heap.size + 1, 2, none⟩) U2.out).trans KA.out.2.2.1, (hb5.cell (p := ⟨w.heap.size + 1, 3, none⟩) U2.out).trans KA.out.2.2.2.1, (hb5.cell (p := ⟨w.heap.size + 1, 4, none⟩) U2.out).trans KA.out.2.2.2.2.1, (hb5.cell (p := ⟨w.heap.size + 1, 5, none⟩) U2.out).trans KA.out.2.2.2.2.2.1, (hb5.cell (p := ⟨w.heap.size + 1, 6, none⟩) U2.out).trans KA.out.2.2.2.2.2.2.1, (hb5.cell (p := ⟨w.heap.size, 0, none⟩) U1.out).trans KA.out.2.2.2.2.2.2.2.1, (hb5.cell (p := ⟨w.heap.size, 9, none⟩) U1.out).trans KA.out.2.2.2.2.2.2.2.2.1, (hb5.cell (p := ⟨wp.heap.size, 0, none⟩) U3.out).trans KA.out.2.2.2.2.2.2.2.2.2.1, (hb5.cell (p := ⟨wp.heap.size, 1, none⟩) U3.out).trans KA.out.2.2.2.2.2.2.2.2.2.2.1, (hb5.cell (p := ⟨wp.heap.size, 2, none⟩) U3.out).trans KA.out.2.2.2.2.2.2.2.2.2.2.2.1, (hb5.cell (p := ⟨wp.heap.size, 3, none⟩) U3.out).trans KA.out.2.2.2.2.2.2.2.2.2.2.2.2.1, (hb5.cell (p := ⟨wp.heap.size, 4, none⟩) U3.out).trans KA.out.2.2.2.2.2.2.2.2.2.2.2.2.2.1, (hb5.cell (p := ⟨wp.heap.size, 5, none⟩) U3.out).trans KA.out.2.2.2.2.2.2.2.2.2.2.2.2.2.2.1, (hb5.cell (p := ⟨wp.heap.size, 6, none⟩) U3.out).trans KA.out.2.2.2.2.2.2.2.2.2.2.2.2.2.2.2.1, (hb5.cell (p := ⟨wp.heap.size, 7, none⟩) U3.out).trans KA.out.2.2.2.2.2.2.2.2.2.2.2.2.2.2.2.2.1, (hb5.cell (p := ⟨wp.heap.size, 8, none⟩) U3.out).trans KA.out.2.2.2.2.2.2.2.2.2.2.2.2.2.2.2.2.2.1, (hb5.cell (p := ⟨wp.heap.size, 9, none⟩) U3.out).trans KA.out.2.2.2.2.2.2.2.2.2.2.2.2.2.2.2.2.2.2.1, (hb5.cell (p := ⟨bd, offd + k, none⟩) U4.out).trans KA.out.2.2.2.2.2.2.2.2.2.2.2.2.2.2.2.2.2.2.2⟩)
        have V1 := Lib.hid (Nat.lt_of_lt_of_le U1.out hb5.size)
        have V2 := Lib.hid (Nat.lt_of_lt_of_le U2.out hb5.size)
        have V3 := Lib.hid (Nat.lt_of_lt_of_le U3.out hb5.size)
        have V4 := Lib.hid (Nat.lt_of_lt_of_le U4.out hb5.size)
        clear hb5
        go_wp2_with fail
        refine hK.out _ _ ?hSd0_2 (fun hHeld2 => ?_)
        case hSd0_2 => exact K5.out
        clear hK K
        refine wpAnyH_take (i := 3) (oi := ⟨some 58, _, _, _, _, _⟩) (v := ?vd0_3) rfl (by kernel_rfl) (by kernel_rfl) (by kernel_rfl) (fun _ _ _ h => h) (Or.inl ⟨by kernel_rfl, ?yd0_3⟩) (by assumption) ?rd0_3
        case yd0_3 =>
         intro W0 hSw
         (try dsimp only at hSw)
         go_simp
         try with_reducible rfl
        simp only [Act.put, List.setIfInBounds_toArray, List.set_cons_zero, List.set_cons_succ]
        refine wpAnyH_take (i := 4) (oi := ⟨some 59, _, _, _, _, _⟩) (v := ?vd0_4) rfl (by kernel_rfl) (by kernel_rfl) (by kernel_rfl) (fun _ _ _ h => h) (Or.inl ⟨by kernel_rfl, ?yd0_4⟩) (by assumption) ?rd0_4
        case yd0_4 =>
         intro W0 hSw
         (try dsimp only at hSw)
         go_simp
         try with_reducible rfl
        simp only [Act.put, List.setIfInBounds_toArray, List.set_cons_zero, List.set_cons_succ]
        refine wpAnyH_take (i := 5) (oi := ⟨some 60, _, _, _, _, _⟩) (v := undef) rfl (by kernel_rfl) (by kernel_rfl) (by kernel_rfl) (fun _ _ _ h => h) (Or.inr ⟨by kernel_rfl, rfl⟩) (by assumption) ?_
        refine wpAnyH_take (i := 6) (oi := ⟨some 61, _, _, _, _, _⟩) (v := undef) rfl (by kernel_rfl) (by kernel_rfl) (by kernel_rfl) (fun _ _ _ h => h) (Or.inr ⟨by kernel_rfl, rfl⟩) (by assumption) ?_
        refine wpAnyH_take (i := 7) (oi := ⟨some 62, _, _, _, _, _⟩) (v := undef) rfl (by kernel_rfl) (by kernel_rfl) (by kernel_rfl) (fun _ _ _ h => h) (Or.inr ⟨by kernel_rfl, rfl⟩) (by assumption) ?_
        refine wpAnyH_take (i := 8) (oi := ⟨some 63, _, _, _, _, _⟩) (v := undef) rfl (by kernel_rfl) (by kernel_rfl) (by kernel_rfl) (fun _ _ _ h => h) (Or.inr ⟨by kernel_rfl, rfl⟩) (by assumption) ?_
        refine wpAnyH_take (i := 9) (oi := ⟨some 64, _, _, _, _, _⟩) (v := undef) rfl (by kernel_rfl) (by kernel_rfl) (by kernel_rfl) (fun _ _ _ h => h) (Or.inr ⟨by kernel_rfl, rfl⟩) (by assumption) ?_
        refine wpAnyH_take (i := 10) (oi := ⟨some 65, _, _, _, _, _⟩) (v := undef) rfl (by kernel_rfl) (by kernel_rfl) (by kernel_rfl) (fun _ _ _ h => h) (Or.inr ⟨by kernel_rfl, rfl⟩) (by assumption) ?_
        simp only [Act.put, List.setIfInBounds_toArray, List.set_cons_zero, List.set_cons_succ]
        refine wpAnyH_take (i := 11) (oi := ⟨some 66, _, _, _, _, _⟩) (v := ?vd0_11) rfl (by kernel_rfl) (by kernel_rfl) (by kernel_rfl) (fun _ _ _ h => h) (Or.inl ⟨by kernel_rfl, ?yd0_11⟩) (by assumption) ?rd0_11
        case yd0_11 =>
         intro W0 hSw
         (try dsimp only at hSw)
         go_simp
         try with_reducible rfl
        simp only [Act.put, List.setIfInBounds_toArray, List.set_cons_zero, List.set_cons_succ]
        refine wpAnyH_take (i := 12) (oi := ⟨some 67, _, _, _, _, _⟩) (v := ?vd0_12) rfl (by kernel_rfl) (by kernel_rfl) (by kernel_rfl) (fun _ _ _ h => h) (Or.inl ⟨by kernel_rfl, ?yd0_12⟩) (by assumption) ?rd0_12
        case yd0_12 =>
         intro W0 hSw
         (try dsimp only at hSw)
         go_simp
         try with_reducible rfl
        simp only [Act.put, List.setIfInBounds_toArray, List.set_cons_zero, List.set_cons_succ]
        refine wpAnyH_take (i := 13) (oi := ⟨some 68, _, _, _, _, _⟩) (v := ?vd0_13) rfl (by kernel_rfl) (by kernel_rfl) (by kernel_rfl) (fun _ _ _ h => h) (Or.inl ⟨by kernel_rfl, ?yd0_13⟩) (by assumption) ?rd0_13
        case yd0_13 =>
         intro W0 hSw
         (try dsimp only at hSw)
         go_simp
         try with_reducible rfl
        simp only [Act.put, List.setIfInBounds_toArray, List.set_cons_zero, List.set_cons_succ]
        refine wpAnyH_take (i := 14) (oi := ⟨some 69, _, _, _, _, _⟩) (v := ?vd0_14) rfl (by kernel_rfl) (by kernel_rfl) (by kernel_rfl) (fun _ _ _ h => h) (Or.inl ⟨by kernel_rfl, ?yd0_14⟩) (by assumption) ?rd0_14
        case yd0_14 =>
         intro W0 hSw
         (try dsimp only at hSw)
         go_simp
         try with_reducible rfl
        simp only [Act.put, List.setIfInBounds_toArray, List.set_cons_zero, List.set_cons_succ]
        refine wpAnyH_ready (rs := [15]) (by kernel_rfl) (by simp) ?_
        refine AllReadyH.cons (o := ⟨some 70, _, _, _, _, _⟩) rfl (fun K hK => ?_) AllReadyH.nil
        go_simp
        (with_reducible refine Calls.mono (NM.out _) ?_)
        rintro e w6 ⟨rfl, hb6⟩
        have HB6 := Lib.hid (bstep (Nat.le_refl _) HB5.out hb6)
        have HC6 := Lib.hid (bstep (Nat.le_refl _) HC5.out hb6)
        have K6 := Lib.hid (show w6.cell? ⟨w.heap.size + 1, 0, none⟩ = some (.int .i64 dl) ∧ w6.cell? ⟨w.heap.size + 1, 1, none⟩ = some (.int .i64 ls) ∧ w6.cell? ⟨w.heap.size + 1, 2, none⟩ = some (.slice (some ⟨bd, offd, none⟩) due.length dc) ∧ w6.cell? ⟨w.heap.size + 1, 3, none⟩ = some (.int .i64 se) ∧ w6.cell? ⟨w.heap.size + 1, 4, none⟩ = some (.int .i64 ki) ∧ w6.cell? ⟨w.heap.size + 1, 5, none⟩ = some (.int .i64 ar) ∧ w6.cell? ⟨w.heap.size + 1, 6, none⟩ = some (.int .i64 bo) ∧ w6.cell? ⟨w.heap.size, 0, none⟩ = some (.slice (some ⟨b, off, none⟩) sch.length sc) ∧ w6.cell? ⟨w.heap.size, 9, none⟩ = some (.int .i64 wd) ∧ w6.cell? ⟨wp.heap.size, 0, none⟩ = some (.int .i64 num) ∧ w6.cell? ⟨wp.heap.size, 1, none⟩ = some (.string nm) ∧ w6.cell? ⟨wp.heap.size, 2, none⟩ = some (.int .i64 o) ∧ w6.cell? ⟨wp.heap.size, 3, none⟩ = some (.int .i64 tn) ∧ w6.cell? ⟨wp.heap.size, 4, none⟩ = some (.int .i64 tm) ∧ w6.cell? ⟨wp.heap.size, 5, none⟩ = some (.slice tq tl tz) ∧ w6.cell? ⟨wp.heap.size, 6, none⟩ = some (.slice bp bn bc) ∧ w6.cell? ⟨wp.heap.size, 7, none⟩ = some (.int .i64 least) ∧ w6.cell? ⟨wp.heap.size, 8, none⟩ = some (.int .i64 ex) ∧ w6.cell? ⟨wp.heap.size, 9, none⟩ = some (.bool needs) ∧ w6.cell? ⟨bd, offd + k, none⟩ = some (.int .i64 u) from ⟨(hb6.cell (p := ⟨w.heap.size + 1, 0, none⟩) V2.out).trans K5.out.1, (hb6.cell (p := ⟨w.heap.size + 1, 1, none⟩) V2.out).trans K5.out.2.1, (hb6.cell (p := ⟨w.heap.size + 1, 2, none⟩) V2.out).trans K5.out.2.2.1, (hb6.cell (p := ⟨w.heap.size + 1, 3, none⟩) V2.out).trans K5.out.2.2.2.1, (hb6.cell (p := ⟨w.heap.size + 1, 4, none⟩) V2.out).trans K5.out.2.2.2.2.1, (hb6.cell (p := ⟨w.heap.size + 1, 5, none⟩) V2.out).trans K5.out.2.2.2.2.2.1, (hb6.cell (p := ⟨w.heap.size + 1, 6, none⟩) V2.out).trans K5.out.2.2.2.2.2.2.1, (hb6.cell (p := ⟨w.heap.size, 0, none⟩) V1.out).trans K5.out.2.2.2.2.2.2.2.1, (hb6.cell (p := ⟨w.heap.size, 9, none⟩) V1.out).trans K5.out.2.2.2.2.2.2.2.2.1, (hb6.cell (p := ⟨wp.heap.size, 0, none⟩) V3.out).trans K5.out.2.2.2.2.2.2.2.2.2.1, (hb6.cell (p := ⟨wp.heap.size, 1, none⟩) V3.out).trans K5.out.2.2.2.2.2.2.2.2.2.2.1, (hb6.cell (p := ⟨wp.heap.size, 2, none⟩) V3.out).trans K5.out.2.2.2.2.2.2.2.2.2.2.2.1, (hb6.cell (p := ⟨wp.heap.size, 3, none⟩) V3.out).trans K5.out.2.2.2.2.2.2.2.2.2.2.2.2.1, (hb6.cell (p := ⟨wp.heap.size, 4, none⟩) V3.out).trans K5.out.2.2.2.2.2.2.2.2.2.2.2.2.2.1, (hb6.cell (p := ⟨wp.heap.size, 5, none⟩) V3.out).trans K5.out.2.2.2.2.2.2.2.2.2.2.2.2.2.2.1, (hb6.cell (p := ⟨wp.heap.size, 6, none⟩) V3.out).trans K5.out.2.2.2.2.2.2.2.2.2.2.2.2.2.2.2.1, (hb6.cell (p := ⟨wp.heap.size, 7, none⟩) V3.out).trans K5.out.2.2.2.2.2.2.2.2.2.2.2.2.2.2.2.2.1, (hb6.cell (p := ⟨wp.heap.size, 8, none⟩) V3.out).trans K5.out.2.2.2.2.2.2.2.2.2.2.2.2.2.2.2.2.2.1, (hb6.cell (p := ⟨wp.heap.size, 9, none⟩) V3.out).trans K5.out.2.2.2.2.2.2.2.2.2.2.2.2.2.2.2.2.2.2.1, (hb6.cell (p := ⟨bd, offd + k, none⟩) V4.out).trans K5.out.2.2.2.2.2.2.2.2.2.2.2.2.2.2.2.2.2.2.2⟩)
        have X1 := Lib.hid (Nat.lt_of_lt_of_le V1.out hb6.size)
        have X2 := Lib.hid (Nat.lt_of_lt_of_le V2.out hb6.size)
        have X3 := Lib.hid (Nat.lt_of_lt_of_le V3.out hb6.size)
        have X4 := Lib.hid (Nat.lt_of_lt_of_le V4.out hb6.size)
        clear hb6
        go_wp2_with fail
        refine hK.out _ _ ?hSd0_15 (fun hHeld2 => ?_)
        case hSd0_15 => exact K6.out
        clear hK K
        refine wpAnyH_take (i := 16) (oi := ⟨some 71, _, _, _, _, _⟩) (v := ?vd0_16) rfl (by kernel_rfl) (by kernel_rfl) (by kernel_rfl) (fun _ _ _ h => h) (Or.inl ⟨by kernel_rfl, ?yd0_16⟩) (by assumption) ?rd0_16
        case yd0_16 =>
         intro W0 hSw
         (try dsimp only at hSw)
         go_simp
         try with_reducible rfl
        simp only [Act.put, List.setIfInBounds_toArray, List.set_cons_zero, List.set_cons_succ]
        refine wpAnyH_take (i := 17) (oi := ⟨some 72, _, _, _, _, _⟩) (v := ?vd0_17) rfl (by kernel_rfl) (by kernel_rfl) (by kernel_rfl) (fun _ _ _ h => h) (Or.inl ⟨by kernel_rfl, ?yd0_17⟩) (by assumption) ?rd0_17
        case yd0_17 =>
         intro W0 hSw
         (try dsimp only at hSw)
         go_simp
         try with_reducible rfl
        simp only [Act.put, List.setIfInBounds_toArray, List.set_cons_zero, List.set_cons_succ]
        refine wpAnyH_take (i := 18) (oi := ⟨some 73, _, _, _, _, _⟩) (v := ?vd0_18) rfl (by kernel_rfl) (by kernel_rfl) (by kernel_rfl) (fun _ _ _ h => h) (Or.inl ⟨by kernel_rfl, ?yd0_18⟩) (by assumption) ?rd0_18
        case yd0_18 =>
         intro W0 hSw
         (try dsimp only at hSw)
         go_simp
         try with_reducible rfl
        simp only [Act.put, List.setIfInBounds_toArray, List.set_cons_zero, List.set_cons_succ]
        refine wpAnyH_take (i := 20) (oi := ⟨some 75, _, _, _, _, _⟩) (v := ?vd0_20) rfl (by kernel_rfl) (by kernel_rfl) (by kernel_rfl) (fun _ _ _ h => h) (Or.inl ⟨by kernel_rfl, ?yd0_20⟩) (by assumption) ?rd0_20
        case yd0_20 =>
         intro W0 hSw
         (try dsimp only at hSw)
         go_simp
         try with_reducible rfl
        simp only [Act.put, List.setIfInBounds_toArray, List.set_cons_zero, List.set_cons_succ]
        refine wpAnyH_take (i := 21) (oi := ⟨some 76, _, _, _, _, _⟩) (v := ?vd0_21) rfl (by kernel_rfl) (by kernel_rfl) (by kernel_rfl) (fun _ _ _ h => h) (Or.inl ⟨by kernel_rfl, ?yd0_21⟩) (by assumption) ?rd0_21
        case yd0_21 =>
         intro W0 hSw
         (try dsimp only at hSw)
         go_simp
         try with_reducible rfl
        simp only [Act.put, List.setIfInBounds_toArray, List.set_cons_zero, List.set_cons_succ]
        refine wpAnyH_ready (rs := [19]) (by kernel_rfl) (by simp) ?_
        refine AllReadyH.cons (o := ⟨some 74, _, _, _, _, _⟩) rfl (fun K hK => ?_) AllReadyH.nil
        go_simp
        (with_reducible refine Calls.mono (FC.out _ HB6.out) ?_)
        rintro e w7 ⟨rfl, hb7⟩
        have HB7 := Lib.hid (bstep (Nat.le_refl _) HB6.out hb7)
        have HC7 := Lib.hid (bstep (Nat.le_refl _) HC6.out hb7)
        have K7 := Lib.hid (show w7.cell? ⟨w.heap.size + 1, 0, none⟩ = some (.int .i64 dl) ∧ w7.cell? ⟨w.heap.size + 1, 1, none⟩ = some (.int .i64 ls) ∧ w7.cell? ⟨w.heap.size + 1, 2, none⟩ = some (.slice (some ⟨bd, offd, none⟩) due.length dc) ∧ w7.cell? ⟨w.heap.size + 1, 3, none⟩ = some (.int .i64 se) ∧ w7.cell? ⟨w.heap.size + 1, 4, none⟩ = some (.int .i64 ki) ∧ w7.cell? ⟨w.heap.size + 1, 5, none⟩ = some (.int .i64 ar) ∧ w7.cell? ⟨w.heap.size + 1, 6, none⟩ = some (.int .i64 bo) ∧ w7.cell? ⟨w.heap.size, 0, none⟩ = some (.slice (some ⟨b, off, none⟩) sch.length sc) ∧ w7.cell? ⟨w.heap.size, 9, none⟩ = some (.int .i64 wd) ∧ w7.cell? ⟨wp.heap.size, 0, none⟩ = some (.int .i64 num) ∧ w7.cell? ⟨wp.heap.size, 1, none⟩ = some (.string nm) ∧ w7.cell? ⟨wp.heap.size, 2, none⟩ = some (.int .i64 o) ∧ w7.cell? ⟨wp.heap.size, 3, none⟩ = some (.int .i64 tn) ∧ w7.cell? ⟨wp.heap.size, 4, none⟩ = some (.int .i64 tm) ∧ w7.cell? ⟨wp.heap.size, 5, none⟩ = some (.slice tq tl tz) ∧ w7.cell? ⟨wp.heap.size, 6, none⟩ = some (.slice bp bn bc) ∧ w7.cell? ⟨wp.heap.size, 7, none⟩ = some (.int .i64 least) ∧ w7.cell? ⟨wp.heap.size, 8, none⟩ = some (.int .i64 ex) ∧ w7.cell? ⟨wp.heap.size, 9, none⟩ = some (.bool needs) ∧ w7.cell? ⟨bd, offd + k, none⟩ = some (.int .i64 u) from ⟨(hb7.cell (p := ⟨w.heap.size + 1, 0, none⟩) X2.out).trans K6.out.1, (hb7.cell (p := ⟨w.heap.size + 1, 1, none⟩) X2.out).trans K6.out.2.1, (hb7.cell (p := ⟨w.heap.size + 1, 2, none⟩) X2.out).trans K6.out.2.2.1, (hb7.cell (p := ⟨w.heap.size + 1, 3, none⟩) X2.out).trans K6.out.2.2.2.1, (hb7.cell (p := ⟨w.heap.size + 1, 4, none⟩) X2.out).trans K6.out.2.2.2.2.1, (hb7.cell (p := ⟨w.heap.size + 1, 5, none⟩) X2.out).trans K6.out.2.2.2.2.2.1, (hb7.cell (p := ⟨w.heap.size + 1, 6, none⟩) X2.out).trans K6.out.2.2.2.2.2.2.1, (hb7.cell (p := ⟨w.heap.size, 0, none⟩) X1.out).trans K6.out.2.2.2.2.2.2.2.1, (hb7.cell (p := ⟨w.heap.size, 9, none⟩) X1.out).trans K6.out.2.2.2.2.2.2.2.2.1, (hb7.cell (p := ⟨wp.heap.size, 0, none⟩) X3.out).trans K6.out.2.2.2.2.2.2.2.2.2.1, (hb7.cell (p := ⟨wp.heap.size, 1, none⟩) X3.out).trans K6.out.2.2.2.2.2.2.2.2.2.2.1, (hb7.cell (p := ⟨wp.heap.size, 2, none⟩) X3.out).trans K6.out.2.2.2.2.2.2.2.2.2.2.2.1, (hb7.cell (p := ⟨wp.heap.size, 3, none⟩) X3.out).trans K6.out.2.2.2.2.2.2.2.2.2.2.2.2.1, (hb7.cell (p := ⟨wp.heap.size, 4, none⟩) X3.out).trans K6.out.2.2.2.2.2.2.2.2.2.2.2.2.2.1, (hb7.cell (p := ⟨wp.heap.size, 5, none⟩) X3.out).trans K6.out.2.2.2.2.2.2.2.2.2.2.2.2.2.2.1, (hb7.cell (p := ⟨wp.heap.size, 6, none⟩) X3.out).trans K6.out.2.2.2.2.2.2.2.2.2.2.2.2.2.2.2.1, (hb7.cell (p := ⟨wp.heap.size, 7, none⟩) X3.out).trans K6.out.2.2.2.2.2.2.2.2.2.2.2.2.2.2.2.2.1, (hb7.cell (p := ⟨wp.heap.size, 8, none⟩) X3.out).trans K6.out.2.2.2.2.2.2.2.2.2.2.2.2.2.2.2.2.2.1, (hb7.cell (p := ⟨wp.heap.size, 9, none⟩) X3.out).trans K6.out.2.2.2.2.2.2.2.2.2.2.2.2.2.2.2.2.2.2.1, (hb7.cell (p := ⟨bd, offd + k, none⟩) X4.out).trans K6.out.2.2.2.2.2.2.2.2.2.2.2.2.2.2.2.2.2.2.2⟩)
        have Y1 := Lib.hid (Nat.lt_of_lt_of_le X1.out hb7.size)
        have Y2 := Lib.hid (Nat.lt_of_lt_of_le X2.out hb7.size)
        have Y3 := Lib.hid (Nat.lt_of_lt_of_le X3.out hb7.size)
        have Y4 := Lib.hid (Nat.lt_of_lt_of_le X4.out hb7.size)
        clear hb7
        go_wp2_with fail
        refine hK.out _ _ ?hSd0_19 (fun hHeld2 => ?_)
        case hSd0_19 => exact K7.out
        clear hK K
        refine wpAnyH_ready (rs := [22]) (by kernel_rfl) (by simp) ?_
        refine AllReadyH.cons (o := ⟨some 77, _, _, _, _, _⟩) rfl (fun K hK => ?_) AllReadyH.nil
        go_simp
        (with_reducible refine Calls.mono (CK.out _) ?_)
        rintro e w8 ⟨rfl, hb8⟩
        have HB8 := Lib.hid (bstep (Nat.le_refl _) HB7.out hb8)
        have HC8 := Lib.hid (bstep (Nat.le_refl _) HC7.out hb8)
        have K8 := Lib.hid (show w8.cell? ⟨w.heap.size + 1, 0, none⟩ = some (.int .i64 dl) ∧ w8.cell? ⟨w.heap.size + 1, 1, none⟩ = some (.int .i64 ls) ∧ w8.cell? ⟨w.heap.size + 1, 2, none⟩ = some (.slice (some ⟨bd, offd, none⟩) due.length dc) ∧ w8.cell? ⟨w.heap.size + 1, 3, none⟩ = some (.int .i64 se) ∧ w8.cell? ⟨w.heap.size + 1, 4, none⟩ = some (.int .i64 ki) ∧ w8.cell? ⟨w.heap.size + 1, 5, none⟩ = some (.int .i64 ar) ∧ w8.cell? ⟨w.heap.size + 1, 6, none⟩ = some (.int .i64 bo) ∧ w8.cell? ⟨w.heap.size, 0, none⟩ = some (.slice (some ⟨b, off, none⟩) sch.length sc) ∧ w8.cell? ⟨w.heap.size, 9, none⟩ = some (.int .i64 wd) ∧ w8.cell? ⟨wp.heap.size, 0, none⟩ = some (.int .i64 num) ∧ w8.cell? ⟨wp.heap.size, 1, none⟩ = some (.string nm) ∧ w8.cell? ⟨wp.heap.size, 2, none⟩ = some (.int .i64 o) ∧ w8.cell? ⟨wp.heap.size, 3, none⟩ = some (.int .i64 tn) ∧ w8.cell? ⟨wp.heap.size, 4, none⟩ = some (.int .i64 tm) ∧ w8.cell? ⟨wp.heap.size, 5, none⟩ = some (.slice tq tl tz) ∧ w8.cell? ⟨wp.heap.size, 6, none⟩ = some (.slice bp bn bc) ∧ w8.cell? ⟨wp.heap.size, 7, none⟩ = some (.int .i64 least) ∧ w8.cell? ⟨wp.heap.size, 8, none⟩ = some (.int .i64 ex) ∧ w8.cell? ⟨wp.heap.size, 9, none⟩ = some (.bool needs) ∧ w8.cell? ⟨bd, offd + k, none⟩ = some (.int .i64 u) from ⟨(hb8.cell (p := ⟨w.heap.size + 1, 0, none⟩) Y2.out).trans K7.out.1, (hb8.cell (p := ⟨w.heap.size + 1, 1, none⟩) Y2.out).trans K7.out.2.1, (hb8.cell (p := ⟨w.heap.size + 1, 2, none⟩) Y2.out).trans K7.out.2.2.1, (hb8.cell (p := ⟨w.heap.size + 1, 3, none⟩) Y2.out).trans K7.out.2.2.2.1, (hb8.cell (p := ⟨w.heap.size + 1, 4, none⟩) Y2.out).trans K7.out.2.2.2.2.1, (hb8.cell (p := ⟨w.heap.size + 1, 5, none⟩) Y2.out).trans K7.out.2.2.2.2.2.1, (hb8.cell (p := ⟨w.heap.size + 1, 6, none⟩) Y2.out).trans K7.out.2.2.2.2.2.2.1, (hb8.cell (p := ⟨w.heap.size, 0, none⟩) Y1.out).trans K7.out.2.2.2.2.2.2.2.1, (hb8.cell (p := ⟨w.heap.size, 9, none⟩) Y1.out).trans K7.out.2.2.2.2.2.2.2.2.1, (hb8.cell (p := ⟨wp.heap.size, 0, none⟩) Y3.out).trans K7.out.2.2.2.2.2.2.2.2.2.1, (hb8.cell (p := ⟨wp.heap.size, 1, none⟩) Y3.out).trans K7.out.2.2.2.2.2.2.2.2.2.2.1, (hb8.cell (p := ⟨wp.heap.size, 2, none⟩) Y3.out).trans K7.out.2.2.2.2.2.2.2.2.2.2.2.1, (hb8.cell (p := ⟨wp.heap.size, 3, none⟩) Y3.out).trans K7.out.2.2.2.2.2.2.2.2.2.2.2.2.1, (hb8.cell (p := ⟨wp.heap.size, 4, none⟩) Y3.out).trans K7.out.2.2.2.2.2.2.2.2.2.2.2.2.2.1, (hb8.cell (p := ⟨wp.heap.size, 5, none⟩) Y3.out).trans K7.out.2.2.2.2.2.2.2.2.2.2.2.2.2.2.1, (hb8.cell (p := ⟨wp.heap.size, 6, none⟩) Y3.out).trans K7.out.2.2.2.2.2.2.2.2.2.2.2.2.2.2.2.1, (hb8.cell (p := ⟨wp.heap.size, 7, none⟩) Y3.out).trans K7.out.2.2.2.2.2.2.2.2.2.2.2.2.2.2.2.2.1, (hb8.cell (p := ⟨wp.heap.size, 8, none⟩) Y3.out).trans K7.out.2.2.2.2.2.2.2.2.2.2.2.2.2.2.2.2.2.1, (hb8.cell (p := ⟨wp.heap.size, 9, none⟩) Y3.out).trans K7.out.2.2.2.2.2.2.2.2.2.2.2.2.2.2.2.2.2.2.1, (hb8.cell (p := ⟨bd, offd + k, none⟩) Y4.out).trans K7.out.2.2.2.2.2.2.2.2.2.2.2.2.2.2.2.2.2.2.2⟩)
        have Z1 := Lib.hid (Nat.lt_of_lt_of_le Y1.out hb8.size)
        have Z2 := Lib.hid (Nat.lt_of_lt_of_le Y2.out hb8.size)
        have Z3 := Lib.hid (Nat.lt_of_lt_of_le Y3.out hb8.size)
        have Z4 := Lib.hid (Nat.lt_of_lt_of_le Y4.out hb8.size)
        clear hb8
        go_wp2_with fail
        refine hK.out _ _ ?hSd0_22 (fun hHeld2 => ?_)
        case hSd0_22 => exact K8.out
        clear hK K
        refine wpAnyH_take (i := 23) (oi := ⟨some 78, _, _, _, _, _⟩) (v := ?vd0_23) rfl (by kernel_rfl) (by kernel_rfl) (by kernel_rfl) (fun _ _ _ h => h) (Or.inl ⟨by kernel_rfl, ?yd0_23⟩) (by assumption) ?rd0_23
        case yd0_23 =>
         intro W0 hSw
         (try dsimp only at hSw)
         go_simp
         try with_reducible rfl
        simp only [Act.put, List.setIfInBounds_toArray, List.set_cons_zero, List.set_cons_succ]
        refine wpAnyH_take (i := 24) (oi := ⟨some 79, _, _, _, _, _⟩) (v := ?vd0_24) rfl (by kernel_rfl) (by kernel_rfl) (by kernel_rfl) (fun _ _ _ h => h) (Or.inl ⟨by kernel_rfl, ?yd0_24⟩) (by assumption) ?rd0_24
        case yd0_24 =>
         intro W0 hSw
         (try dsimp only at hSw)
         go_simp
         try with_reducible rfl
        simp only [Act.put, List.setIfInBounds_toArray, List.set_cons_zero, List.set_cons_succ]
        refine wpAnyH_take (i := 25) (oi := ⟨some 80, _, _, _, _, _⟩) (v := ?vd0_25) rfl (by kernel_rfl) (by kernel_rfl) (by kernel_rfl) (fun _ _ _ h => h) (Or.inl ⟨by kernel_rfl, ?yd0_25⟩) (by assumption) ?rd0_25
        case yd0_25 =>
         intro W0 hSw
         (try dsimp only at hSw)
         go_simp
         try with_reducible rfl
        refine wpAnyH_done (by kernel_rfl) ?_ _
        go_wp2
        go_ret
        exact ⟨by rw [EV.out, NOALL.out BAD.out]; rfl, HB8.out⟩
     ·obtain rfl : k = sch.length := by omega
      have E := Lib.hid (show V = true from by rw [EV.out, List.all_eq_true]; exact fun j hj => HAL.out j (List.mem_range.1 hj))
      clear hall hb
      go_wp2
      go_ret
      exact ⟨by rw [E.out]; rfl, HBP.out⟩
end Go.Proofs.YtmlfcpglhipjgaaGreat
