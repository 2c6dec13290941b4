/-
  PACKED (pack8.py): what is needed of the texts Fc.
-/
import Derived.Test.YtmlfcpglhipjgaaGreatZ0
import Derived.Test.YtmlfcpglhipjgaaGreatZ1
import Derived.Test.YtmlfcpglhipjgaaGreatZ4
import Derived.Test.YtmlfcpglhipjgaaGreatZ6
import Derived.Test.YtmlfcpglhipjgaaGreatZ7
import Derived.Test.YtmlfcpglhipjgaaGreatZ9
import Derived.Test.YtmlfcpglhipjgaaGreatZ13
import Derived.Test.YtmlfcpglhipjgaaGreatZ15
import Derived.Test.YtmlfcpglhipjgaaGreatZ17
import Derived.Test.YtmlfcpglhipjgaaGreatZ19
import Derived.Test.YtmlfcpglhipjgaaGreatZ26
import Derived.Test.YtmlfcpglhipjgaaGreatZ29
import Derived.Test.YtmlfcpglhipjgaaGreatZ30
namespace Go.Proofs.YtmlfcpglhipjgaaGreat.Sc
end Go.Proofs.YtmlfcpglhipjgaaGreat.Sc
namespace Go.Proofs.YtmlfcpglhipjgaaGreat.As
end Go.Proofs.YtmlfcpglhipjgaaGreat.As
namespace Go.Proofs.YtmlfcpglhipjgaaGreat
open Go.RowKit Sc As
structure TwF (t : Nat) (wo W : World) (x y : Nat) (gx gy : Array Value) : Prop where
 bx : Blk W x gx 47
 by_ : Blk W y gy 47
 ne : x ≠ y
 bt : But t wo W
 hx : wo.heap.size ≤ x
 hy : wo.heap.size ≤ y
theorem TwF.next {t : Nat} {wo W W' : World} {x y : Nat} {gx gy : Array Value} (h : TwF t wo W x y gx gy) (ht : t < wo.heap.size) (hb : But t W W') : TwF t wo W' x y gx gy :=
 ⟨h.bx.but hb (by have := h.hx; omega), h.by_.but hb (by have := h.hy; omega), h.ne, h.bt.trans hb, h.hx, h.hy⟩
theorem TwF.drew {t : Nat} {wo W : World} {x y : Nat} {gx gy : Array Value} (h : TwF t wo W x y gx gy) : TwF t wo W.drew x y gx gy := ⟨h.bx.below (Below.refl _ _).drew, h.by_.below (Below.refl _ _).drew, h.ne, h.bt.drew, h.hx, h.hy⟩
theorem TwF.turn {t : Nat} {wo W : World} {x y : Nat} {gx gy : Array Value} (h : TwF t wo W x y gx gy) : TwF t wo W y x gy gx := ⟨h.by_, h.bx, h.ne.symm, h.bt, h.hy, h.hx⟩
theorem TwF.two (t : Nat) (wo : World) (gx gy : Array Value) : TwF t wo ((wo.alloc (.cells gx 47)).alloc (.cells gy 47)) wo.heap.size (wo.heap.size + 1) gx gy := by
 have e : (wo.alloc (.cells gx 47)).heap.size = wo.heap.size + 1 := by simp
 exact ⟨(Blk.new wo _ _).below ((Below.refl _ _).alloc (Nat.le_refl _) _), e ▸ Blk.new _ _ _, by omega, .of_below (((Below.refl _ _).alloc (Nat.le_refl _) _).alloc (by simp) _), Nat.le_refl _, by omega⟩
theorem TwF.sets {t : Nat} {wo W : World} {x y : Nat} {gx gy : Array Value} (h : TwF t wo W x y gx gy) (u v : Value) : TwF t wo ((W.setCell ⟨x, 1, none⟩ u).setCell ⟨y, 1, none⟩ v) x y (gx.setIfInBounds 1 u) (gy.setIfInBounds 1 v) := by
 have low : Below wo.heap.size W ((W.setCell ⟨x, 1, none⟩ u).setCell ⟨y, 1, none⟩ v) := ((Below.refl _ _).setCell h.hx u).setCell h.hy v
 exact ⟨(h.bx.set 1 u).far h.ne v, (h.by_.far h.ne.symm u).set 1 v, h.ne, h.bt.stpB low (Nat.le_refl _), h.hx, h.hy⟩
theorem As.FarmOk.day {l : YLaw} {f : FarmF} (h : FarmOk l f) {d : Int} (d0 : 0 ≤ d) (d1 : d ≤ 36864) : FarmOk l { f with day := d } := ⟨h.f0, h.f1, d0, d1, h.len, h.line, h.sum⟩
theorem As.FOk.single {l : YLaw} {f : FarmF} (hl : YOk l) (h : FarmOk l f) : FOk l [f] := ⟨hl, by simp, fun g hg => by rw [List.mem_singleton.1 hg]; exact h, fun i hi => by simp at hi⟩
set_option maxRecDepth 100000 in
set_option maxHeartbeats 8000000 in
theorem assessmentTimes_walk (a : Option Addr) (len cap : Nat) (z : List Int) (w : World) (w0 : IsRow .i64 w a len cap z) :
  Calls Tryz.prog 9 #[.slice a len cap] w fun e w' => e = .returned (.bool true) ∧ Below w.heap.size w w' := by
 obtain ⟨hIr, hLr⟩ := w0.ints
 have NW := Lib.hid (new_any a len cap z w w0)
 obtain ⟨l, el⟩ : ∃ l, (z.take len).take 400 = l := ⟨_, rfl⟩
 rw [el] at NW
 clear el hIr hLr w0
 go_enter Tryz.func9, Tryz.ntmps9
 go_wp2_with fail
 (with_reducible refine Calls.mono NW.out ?_)
 rintro e w1 ⟨rfl, ht1, hb1⟩
 have LW := Lib.hid (law2_any w.heap.size l 0 w1 ht1)
 have HT1 := Lib.hid ht1.lt
 have HB1 := Lib.hid hb1
 clear NW ht1 hb1
 go_wp2_with fail
 (with_reducible refine Calls.mono LW.out ?_)
 rintro e w2 ⟨d, r, Y, q, rfl, hy, hok, hlen, hdue, hsm, hp⟩
 have O2 := Lib.hid (Opn.init (T := 29) HB1.out HT1.out hy hok hlen hdue hsm hp rfl)
 clear hy hok hlen hdue hsm hp LW
 obtain ⟨sp, sn, sc, tp, tn, tc, ldue, llast, lmille, gp, gn, gc, cp, ev, un, wd⟩ := r
 simp only [yCells] at O2 ⊢
 obtain ⟨g, eg⟩ : ∃ g, w2.heap.size = g := ⟨_, rfl⟩
 rw [eg] at O2
 have FM := Lib.hid (O2.out.farms 2 (by omega))
 simp only [yCells] at FM
 go_wp2_with fail
 clear eg
 generalize w2.alloc (.cells #[.slice sp sn sc, .slice tp tn tc, .int .i64 ldue, .int .i64 llast, .int .i64 lmille, .slice gp gn gc, .int .i64 cp, .int .i64 ev, .int .i64 un, .int .i64 wd] 29) = w3 at *
 (with_reducible refine Calls.mono FM.out ?_)
 rintro e w4 ⟨p, F, capF, q4, rfl, hcF, hO4, hF4, -⟩
 have O4 := Lib.hid hO4
 have F4 := Lib.hid hF4
 clear FM hO4 hF4 O2 hcF
 have hlF := F4.out.len
 go_wp2_with fail
 go_loopw [24] (fun i W => ∃ (k q : Nat), k ≤ F.length ∧ i = .int .i64 k ∧ Opn w W w.heap.size l q g d ⟨sp, sn, sc, tp, tn, tc, ldue, llast, lmille, gp, gn, gc, cp, ev, un, wd⟩ Y ∧ Fms W w.heap.size Y p F 2) (fun i _ => F.length - (intOf i).toNat)
 case atStart => exact ⟨0, q4, Nat.zero_le _, rfl, O4.out, F4.out⟩
 case round =>
  clear O4 F4
  obtain ⟨wo, rfl⟩ : ∃ wo : World, wo = wr := ⟨_, rfl⟩
  obtain ⟨k, q0, hk, rfl, hO, hF⟩ := hrel
  have OO := Lib.hid hO
  have FF := Lib.hid hF
  have hk0 : (0 : Int) ≤ (k : Int) := Int.natCast_nonneg _
  by_cases hlt : k < F.length
  ·have hk1 : (k : Int) < (F.length : Int) := by omega
   obtain ⟨b, off, ⟨fa, da, lp, ln, lc⟩, rfl, hbl, ⟨c0, c1, c2⟩, hv⟩ := hF.at_.at hlt
   simp only at c0 c1 c2
   have hfm := List.getElem_mem hlt
   have FOK := Lib.hid (FF.out.ok.farm _ hfm)
   have HV := Lib.hid hv
   obtain ⟨f, ef⟩ : ∃ f, F[k] = f := ⟨_, rfl⟩
   rw [ef] at FOK HV
   obtain ⟨gf, egf⟩ : ∃ g, wo.heap.size = g := ⟨_, rfl⟩
   have hba := (Below.refl wo.heap.size wo).alloc (Nat.le_refl _) (.cells #[.int .i64 fa, .int .i64 da, .slice lp ln lc] 47)
   have OA := Lib.hid (OO.out.below hba)
   have FFA := Lib.hid (FF.out.below hba)
   have HVA := Lib.hid (HV.out.below hba)
   have BF := Lib.hid (egf ▸ Blk.new wo #[.int .i64 fa, .int .i64 da, .slice lp ln lc] 47)
   clear hO hF hv hba ef hfm hbl
   go_upto_region 6 with fail
   clear egf c0 c1 c2
   generalize wo.alloc (.cells #[.int .i64 fa, .int .i64 da, .slice lp ln lc] 47) = wa at *
   have c0 := BF.out.cell 0
   have c1 := BF.out.cell 1
   have c2 := BF.out.cell 2
   go_cut [7, 8] (fun s7 s8 wx => ∃ x y : Nat, s7 = .pointer (some ⟨x, 0, none⟩) ∧ s8 = .pointer (some ⟨y, 0, none⟩) ∧ TwF w.heap.size wa wx x y #[.int .i64 fa, .int .i64 da, .slice lp ln lc] #[.int .i64 fa, .int .i64 da, .slice lp ln lc] ∧ Below wa.heap.size wa wx)
   case first =>
    go_region_held3 (fun w' => w'.cell? ⟨gf, 0, none⟩ = some (.int .i64 fa) ∧ w'.cell? ⟨gf, 1, none⟩ = some (.int .i64 da) ∧ w'.cell? ⟨gf, 2, none⟩ = some (.slice lp ln lc)) (go_keep) (fail)
    all_goals (go_wp2_with fail; go_meet)
    ·exact ⟨_, _, rfl, rfl, (TwF.two _ _ _ _).drew, (((Below.refl _ _).alloc (Nat.le_refl _) _).alloc (by simp) _).drew⟩
    ·exact ⟨_, _, rfl, rfl, (TwF.two _ _ _ _).turn.drew, (((Below.refl _ _).alloc (Nat.le_refl _) _).alloc (by simp) _).drew⟩
   case rest =>
    clear c0 c1 c2
    obtain ⟨x, y, rfl, rfl, hT, hbw⟩ := hcut
    have TT := Lib.hid hT
    have HTW := Lib.hid (show w.heap.size < wa.heap.size from OA.out.tape.lt)
    have OT := Lib.hid (OA.out.below hbw)
    have FFT := Lib.hid (FFA.out.below hbw)
    have HVT := Lib.hid (HVA.out.below hbw)
    have HXG := Lib.hid (show x ≠ g ∧ y ≠ g from by have h1 := hT.hx; have h2 := hT.hy; have h3 := OA.out.vb.lt; omega)
    have HDU := Lib.hid (show 0 ≤ ldue ∧ ldue < 40 ∧ ldue = Y.late.due from by
     have h1 := OA.out.yv.due
     have h2 := OA.out.due
     have h3 := OA.out.ok.late.d0
     simp only at h1
     omega)
    obtain ⟨c60, ec⟩ : ∃ x, gives l q0 60 = x := ⟨_, rfl⟩
    have hc60 := gives_bd l q0 (n := 60) (by omega)
    obtain ⟨q5, eq5⟩ : ∃ x, taken l q0 = x := ⟨_, rfl⟩
    rw [ec] at hc60
    have TN := Lib.hid (fun (W : World) (h : TapeAt W w.heap.size l q0) => eq5 ▸ ec ▸ next_any w.heap.size l q0 60 W h (by omega))
    have hd0 := HDU.out.1
    have hd1 := HDU.out.2.1
    have hwd : IntKind.i64.wrap (ldue + c60) = ldue + c60 := by rw [IntKind.wrap_i64]; omega
    have VB := OT.out.vb.below (Below.refl _ _).drew
    simp only [yCells] at VB
    have KD := Lib.hid (show wc.drew.cell? ⟨g, 2, none⟩ = some (.int .i64 ldue) from VB.cell 2)
    clear VB hT hbw ec eq5
    go_wp2_with fail
    go_region_held3 (fun w' => w'.cell? ⟨g, 2, none⟩ = some (.int .i64 ldue)) (first | with_reducible exact KD.out | with_reducible exact K6.out | with_reducible exact K7.out | with_reducible exact K8.out | go_keep) (first | (go_at_call 37; (with_reducible refine Calls.mono (TN.out _ (OT.out.tape.below (Below.refl _ _).drew)) ?_); rintro e w6 ⟨rfl, ht6, hb6⟩; have O6 := Lib.hid ((OT.out.below (Below.refl _ _).drew).next ht6 hb6); have T6 := Lib.hid (TT.out.drew.next HTW.out hb6); have F6 := Lib.hid ((FFT.out.below (Below.refl _ _).drew).but hb6); have V6 := Lib.hid ((HVT.out.below (Below.refl _ _).drew).change hb6.size fun b k hl => ⟨hb6.block b hl (show b ≠ w.heap.size from by have : w.heap.size < b := k; omega), k⟩); have VB6 := O6.out.vb; simp only [yCells] at VB6; have K6 := Lib.hid (show w6.cell? ⟨g, 2, none⟩ = some (.int .i64 ldue) from VB6.cell 2); have x1 := T6.out.bx.cell 1; have x1f := T6.out.bx.fr 1; have y1 := T6.out.by_.cell 1; have y1f := T6.out.by_.fr 1; have hxy := T6.out.ne; have hyx := T6.out.ne.symm; have K7 := Lib.hid (show (w6.setCell ⟨x, 1, none⟩ (.int .i64 ldue)).cell? ⟨g, 2, none⟩ = some (.int .i64 ldue) from (World.cell?_setCell_far _ ⟨x, 1, none⟩ ⟨g, 2, none⟩ _ HXG.out.1).trans K6.out); have K8 := Lib.hid (show ((w6.setCell ⟨x, 1, none⟩ (.int .i64 ldue)).setCell ⟨y, 1, none⟩ (.int .i64 (ldue + c60))).cell? ⟨g, 2, none⟩ = some (.int .i64 ldue) from (World.cell?_setCell_far _ ⟨y, 1, none⟩ ⟨g, 2, none⟩ _ HXG.out.2).trans K7.out); clear ht6 hb6 VB6) | fail)
    have W7 := Lib.hid (show But w.heap.size wa ((w6.setCell ⟨x, 1, none⟩ (.int .i64 ldue)).setCell ⟨y, 1, none⟩ (.int .i64 (ldue + c60))) from (T6.out.sets _ _).bt)
    have L7 := Lib.hid (show Below wa.heap.size w6 ((w6.setCell ⟨x, 1, none⟩ (.int .i64 ldue)).setCell ⟨y, 1, none⟩ (.int .i64 (ldue + c60))) from ((Below.refl _ _).setCell T6.out.hx _).setCell T6.out.hy _)
    have O7 := Lib.hid (OA.out.next (O6.out.tape.belowB L7.out HTW.out) W7.out)
    have F7 := Lib.hid (FFA.out.but W7.out)
    have V7 := Lib.hid (HVA.out.change W7.out.size fun b k hl => ⟨W7.out.block b hl (show b ≠ w.heap.size from by have : w.heap.size < b := k; omega), k⟩)
    have T7 := Lib.hid (show TwF w.heap.size wa ((w6.setCell ⟨x, 1, none⟩ (.int .i64 ldue)).setCell ⟨y, 1, none⟩ (.int .i64 (ldue + c60))) x y #[.int .i64 fa, .int .i64 ldue, .slice lp ln lc] #[.int .i64 fa, .int .i64 (ldue + c60), .slice lp ln lc] from T6.out.sets _ _)
    clear x1 x1f y1 y1f hxy hyx K6 K7 K8 KD L7 W7 T6 O6 F6 V6 HVT FFT OT TT HVA FFA HXG
    generalize (w6.setCell ⟨x, 1, none⟩ (.int .i64 ldue)).setCell ⟨y, 1, none⟩ (.int .i64 (ldue + c60)) = w7 at *
    have FY := Lib.hid (show FarmOk Y { f with day := Y.late.due } from FOK.out.day (by have := HDU.out; omega) (by have := HDU.out; omega))
    have FZ := Lib.hid (show FarmOk Y { f with day := ldue + c60 } from FOK.out.day (by omega) (by omega))
    have TM := Lib.hid (times (l := Y) (f := f) OA.out.ok FOK.out (d := ldue + c60) (by have := HDU.out; omega))
    have E1 := Lib.hid (farmErr_cases (FOk.single OA.out.ok FY.out) List.mem_cons_self)
    have E2 := Lib.hid (farmErr_cases (FOk.single OA.out.ok FZ.out) List.mem_cons_self)
    have G1 := Lib.hid (fun (W : World) (hy : YV (fun b => w.heap.size < b) W d ⟨sp, sn, sc, tp, tn, tc, ldue, llast, lmille, gp, gn, gc, cp, ev, un, wd⟩ Y) (hv : FV (fun b => w.heap.size < b) W ⟨fa, da, lp, ln, lc⟩ f) => frm34_any d _ Y ⟨fa, ldue, lp, ln, lc⟩ { f with day := Y.late.due } W hy ⟨hv.farm, HDU.out.2.2, hv.lines, hv.ln, hv.lc, hv.lz⟩)
    have G2 := Lib.hid (fun (W : World) (hy : YV (fun b => w.heap.size < b) W d ⟨sp, sn, sc, tp, tn, tc, ldue, llast, lmille, gp, gn, gc, cp, ev, un, wd⟩ Y) (hv : FV (fun b => w.heap.size < b) W ⟨fa, da, lp, ln, lc⟩ f) => frm34_any d _ Y ⟨fa, ldue + c60, lp, ln, lc⟩ { f with day := ldue + c60 } W hy ⟨hv.farm, rfl, hv.lines, hv.ln, hv.lc, hv.lz⟩)
    simp only [yCells, fCells] at G1 G2
    unfold FrG at G1 G2
    obtain ⟨e1, ee1⟩ : ∃ e, farmErr Y { f with day := Y.late.due } = e := ⟨_, rfl⟩
    obtain ⟨e2, ee2⟩ : ∃ e, farmErr Y { f with day := ldue + c60 } = e := ⟨_, rfl⟩
    obtain ⟨A, eA⟩ : ∃ A, farmAw Y { f with day := Y.late.due } = A := ⟨_, rfl⟩
    obtain ⟨B, eB⟩ : ∃ B, farmAw Y { f with day := ldue + c60 } = B := ⟨_, rfl⟩
    rw [ee1] at E1
    rw [ee2] at E2
    simp only [ee1, ee2, eA, eB] at TM G1 G2
    clear ee1 ee2 eA eB
    have VB := O7.out.vb
    simp only [yCells] at VB
    have y0 := VB.cell 0; have y1 := VB.cell 1; have y2 := VB.cell 2; have y3 := VB.cell 3; have y4 := VB.cell 4; have y5 := VB.cell 5; have y6 := VB.cell 6; have y7 := VB.cell 7; have y8 := VB.cell 8; have y9 := VB.cell 9;
    clear VB
    have q0 := T7.out.bx.cell 0; have q1 := T7.out.bx.cell 1; have q2 := T7.out.bx.cell 2
    go_wp2_with fail
    (with_reducible refine Calls.mono (G1.out _ O7.out.yv V7.out) ?_)
    rintro e w8 ⟨va, vr, rfl, hoa, -, hb8⟩
    have O8 := Lib.hid (O7.out.below hb8)
    have F8 := Lib.hid (F7.out.below hb8)
    have T8 := Lib.hid (T7.out.by_.below hb8)
    have V8 := Lib.hid (V7.out.below hb8)
    have OA8 := Lib.hid hoa
    clear hoa hb8 y0 y1 y2 y3 y4 y5 y6 y7 y8 y9 q0 q1 q2
    have VB := O8.out.vb
    simp only [yCells] at VB
    have y0 := VB.cell 0; have y1 := VB.cell 1; have y2 := VB.cell 2; have y3 := VB.cell 3; have y4 := VB.cell 4; have y5 := VB.cell 5; have y6 := VB.cell 6; have y7 := VB.cell 7; have y8 := VB.cell 8; have y9 := VB.cell 9;
    clear VB
    have q0 := T8.out.cell 0; have q1 := T8.out.cell 1; have q2 := T8.out.cell 2
    go_wp2_with fail
    (with_reducible refine Calls.mono (G2.out _ O8.out.yv V8.out) ?_)
    rintro e w9 ⟨vb, vs, rfl, hob, -, hb9⟩
    have O9 := Lib.hid (O8.out.below hb9)
    have F9 := Lib.hid (F8.out.below hb9)
    have OA9 := Lib.hid (OA8.out.below hb9)
    have OB9 := Lib.hid hob
    clear hob hb9 y0 y1 y2 y3 y4 y5 y6 y7 y8 y9 q0 q1 q2
    rcases E1.out with h1 | h1
    rotate_left
    ·subst h1
     go_wp2_with (first | (go_at_call 15; (with_reducible refine Calls.mono (awake34_any _) ?_); rintro e w9 ⟨rfl, hb9⟩; have HB9 := Lib.hid (bnext O9.out.low O9.out.low.size hb9); clear hb9) | fail)
     go_ret
     exact ⟨rfl, HB9.out⟩
    subst h1
    rcases E2.out with h2 | h2
    rotate_left
    ·subst h2
     go_wp2_with (first | (go_at_call 15; (with_reducible refine Calls.mono (awake34_any _) ?_); rintro e w9 ⟨rfl, hb9⟩; have HB9 := Lib.hid (bnext O9.out.low O9.out.low.size hb9); clear hb9) | fail)
     go_ret
     exact ⟨rfl, HB9.out⟩
    subst h2
    have TX := Lib.hid (TM.out rfl rfl)
    obtain ⟨n, en⟩ : ∃ n, A.length = n := ⟨_, rfl⟩
    have enb : B.length = n := TX.out.len.symm.trans en
    obtain ⟨pa, ca, rfl, -, -, -, -, hra⟩ := OA9.out.cut en
    obtain ⟨pb, cb, rfl, -, -, -, -, hrb⟩ := OB9.out.cut enb
    have RA := Lib.hid hra
    have RB := Lib.hid hrb
    have HLA := Lib.hid en
    have HLB := Lib.hid enb
    have hnl := hra.len
    rw [en] at hnl
    clear hra hrb en enb TM E1 E2 G1 G2
    go_wp2_with fail
    go_loopw [77] (fun i W => ∃ m : Nat, m ≤ n ∧ i = .int .i64 m ∧ Below w9.heap.size w9 W) (fun i _ => n - (intOf i).toNat)
    case atStart => exact ⟨0, Nat.zero_le _, rfl, Below.refl _ _⟩
    case round =>
     obtain ⟨wp, rfl⟩ : ∃ wp : World, wp = wr := ⟨_, rfl⟩
     obtain ⟨m, hm, rfl, hb2⟩ := hrel
     have HB2 := Lib.hid hb2
     have hm0 : (0 : Int) ≤ (m : Int) := Int.natCast_nonneg _
     by_cases hltm : m < n
     ·have hm1 : (m : Int) < (n : Int) := by omega
      obtain ⟨b2, off2, rfl, -, ⟨-, -, -, a3, a4, a5, a6, -, -⟩⟩ := SA_at (RA.out.below hb2) (show m < A.length by rw [HLA.out]; exact hltm)
      obtain ⟨b3, off3, rfl, -, ⟨-, -, -, d3, d4, d5, d6, -, -⟩⟩ := SA_at (RB.out.below hb2) (show m < B.length by rw [HLB.out]; exact hltm)
      obtain ⟨t1, t2, t3, t4, t5⟩ := TX.out.each m (by rw [HLA.out]; exact hltm) (by rw [HLB.out]; exact hltm)
      rw [t1] at a6
      rw [t1] at t2
      rw [← t3] at d5
      rw [← t4] at d4
      rw [← t5] at d3
      generalize (A[m]'(by rw [HLA.out]; exact hltm)) = x1 at *
      generalize (B[m]'(by rw [HLB.out]; exact hltm)) = x2 at *
      have n1 : (x1.rated != x1.rated) = false := by simp
      have n2 : decide (x1.rated < x2.timely) = false := decide_eq_false (by omega)
      have n3 : (x1.paid != x1.paid) = false := by simp
      have n4 : (x1.det != x1.det) = false := by simp
      clear t1 t2 t3 t4 t5 hb2
      go_wp2_with fail
      refine wp_region_quiet_lit (by kernel_rfl) (by kernel_rfl) ?_
      try simp only [List.append_eq, List.cons_append, List.nil_append]
      repeat (go_big_quiet_step (fail))
      refine wpQuiet_nil ?_
      intro _ hwq
      obtain ⟨nq, hwr⟩ := hwq
      subst hwr
      go_wp2_with fail
      go_roundw
      case rel => exact ⟨m + 1, by omega, by go_num, bnext HB2.out HB2.out.size (drewN_below _ _)⟩
      case measure => simp [intOf]; omega
     ·obtain rfl : m = n := by omega
      have OE := Lib.hid (O9.out.below hb2)
      have FE := Lib.hid (F9.out.below hb2)
      clear hb2 hm hltm hm0 hnl
      go_wp2_with fail
      go_roundw
      case rel => exact ⟨k + 1, q5, by omega, by go_num, OE.out, FE.out⟩
      case measure => simp [intOf]; omega
  ·obtain rfl : k = F.length := by omega
   clear hO hF hk hlt hk0
   go_wp2_with (first | (go_at_call 15; (with_reducible refine Calls.mono (awake34_any _) ?_); rintro e w9 ⟨rfl, hb9⟩; have HB9 := Lib.hid (bnext OO.out.low OO.out.low.size hb9); clear hb9) | fail)
   go_ret
   exact ⟨rfl, HB9.out⟩
end Go.Proofs.YtmlfcpglhipjgaaGreat
