/-
  PACKED (pack8.py): what is needed of the texts Vf, Vg, Al, Aw, Lo.
-/
import Derived.Test.YtmlfcpglhipjgaaGreatM29
set_option maxRecDepth 100000
set_option maxHeartbeats 8000000
open Go.Value renaming int → I
open Go.IntKind renaming i64 → O
namespace Go.Proofs.YtmlfcpglhipjgaaGreat
open Go.RowKit Sc As
section
variable {w W W' : World} {t q q' g g3 d : Nat} {l : List Int} {r : RY} {Y : YLaw}
theorem LawV.tg (h : LawV w W t l q g g3 d r Y) : t < g := by have := h.ord; have := h.tp.lt; omega
theorem LawV.next (h : LawV w W t l q g g3 d r Y) (ht : TapeAt W' t l q') (hb : But t W W') : LawV w W' t l q' g g3 d r Y := by
 have h1 := h.tg; have h2 := h.ord; have h3 := h.tp.lt; exact ⟨h.tp.next ht hb, h.res.but hb (by omega), h.vb.but hb (by omega), h.yv.change hb.size fun b k hl => ⟨hb.block b hl (by have := k.1; omega), k⟩, h.ok, h.len, h.due, h.sm, h2⟩
theorem LawV.set (h : LawV w W t l q g g3 d r Y) (i : Nat) (u : Value) {r' : RY} {Y' : YLaw} (hr : (yCells r).toArray.setIfInBounds i u = (yCells r').toArray) (hy : ∀ W', YV (fun b => w.heap.size ≤ b ∧ b ≠ g ∧ b ≠ g3) W' d r Y → YV (fun b => w.heap.size ≤ b ∧ b ≠ g ∧ b ≠ g3) W' d r' Y') (ho : YOk Y') (hs : Y'.sch = Y.sch) (hl : Y'.late = Y.late) :
  LawV w (W.setCell ⟨g3, i, none⟩ u) t l q g g3 d r' Y' := by
 have h2 := h.ord; exact ⟨h.tp.set (by omega) u, h.res.far (by omega) u, hr ▸ h.vb.set i u, hy _ (h.yv.change (by simp [World.setCell]) fun b k _ => ⟨setCell_far _ k.2.2 _ _, k⟩), ho, by rw [hs]; exact h.len, by rw [hl]; exact h.due, by rw [hs]; exact h.sm, h2⟩
theorem LawV.capd (h : LawV w W t l q g g3 d r Y) (c : Int) (h0 : 0 ≤ c) (h1 : c ≤ 68719476736) : LawV w (W.setCell ⟨g3, 6, none⟩ (I O c)) t l q g g3 d { r with cap := c } { Y with cap := c } :=
 h.set 6 _ rfl (fun _ k => ⟨k.sch, k.sn, k.sc, k.steps, k.tn, k.tq, k.due, k.last, k.mille, k.deg, k.gn, k.gq, rfl, k.env, k.unit, k.width, k.small, k.terms⟩) ⟨h.ok.ne, h.ok.sch, h.ok.steps, h.ok.late, h.ok.deg, ⟨h0, h1⟩, h.ok.env, h.ok.unit, h.ok.width⟩ rfl rfl
theorem LawV.env (h : LawV w W t l q g g3 d r Y) (c : Int) (h0 : 0 ≤ c) (h1 : c ≤ 68719476736) : LawV w (W.setCell ⟨g3, 7, none⟩ (I O c)) t l q g g3 d { r with env := c } { Y with env := c } :=
 h.set 7 _ rfl (fun _ k => ⟨k.sch, k.sn, k.sc, k.steps, k.tn, k.tq, k.due, k.last, k.mille, k.deg, k.gn, k.gq, k.cap, rfl, k.unit, k.width, k.small, k.terms⟩) ⟨h.ok.ne, h.ok.sch, h.ok.steps, h.ok.late, h.ok.deg, h.ok.cap, ⟨h0, h1⟩, h.ok.unit, h.ok.width⟩ rfl rfl
theorem LawV.fin (h : LawV w W t l q g g3 d r Y) (u0 u1 u2 u3 u4 u5 u6 u7 u8 u9 : Value) : YV (NewQ w.heap.size) (put10 W g u0 u1 u2 u3 u4 u5 u6 u7 u8 u9) d r Y ∧ TpB w (put10 W g u0 u1 u2 u3 u4 u5 u6 u7 u8 u9) t l q :=
 ⟨h.yv.change (by rw [put10_sz]; exact Nat.le_refl _) fun b k _ => ⟨put10_far _ k.2.1 _ _ _ _ _ _ _ _ _ _, k.1⟩, h.tp.belowB (put10_low (brf _ _) h.ord.1 _ _ _ _ _ _ _ _ _ _)⟩
end
def LawG (t : Nat) (l : List Int) (w : World) (e : Ending) (w' : World) : Prop :=
 ∃ (d : Nat) (r : RY) (Y : YLaw) (q : Nat), e = .returned (.agg (yCells r).toArray) ∧ YV (NewQ w.heap.size) w' d r Y ∧ YOk Y ∧ Y.sch.length ≤ 3 ∧ Y.late.due < 40 ∧ (∀ s ∈ Y.sch, SmallS s) ∧ TpB w w' t l q
theorem law2_any (t : Nat) (l : List Int) (a : Nat) (w : World) (h : TapeAt w t l a) : Calls Tryz.prog 17 #[.pointer (some ⟨t, 0, none⟩)] w (LawG t l w) := by
 obtain ⟨g, eg⟩ : ∃ g, w.heap.size = g := ⟨_, rfl⟩
 have J0 := mh (show LwJ w (w.alloc (.cells #[.slice none 0 0, .slice none 0 0, I O 0, I O 0, I O 0, .slice none 0 0, I O 0, I O 0, I O 0, I O 0] 29)).drew t l g ⟨a, 0, none, 0, [], none, 0, [], 0, 0, 0, none, 0, [], 0, 0, 0, 0, 0, 0, 0⟩ 0 false false false from by
  have hb := ((brf w.heap.size w).alloc mle (.cells #[.slice none 0 0, .slice none 0 0, I O 0, I O 0, I O 0, .slice none 0 0, I O 0, I O 0, I O 0, I O 0] 29)).drew
  exact ⟨(TpB.init h).below hb, (eg ▸ Blk.new w _ _).below (brf _ _).drew, by omega, (fun e => by omega), (fun e => by omega), (fun e => by omega), (fun e => by omega), (fun e => by omega), (fun e => by omega), (fun e => by omega), (fun e => by omega), (fun e => by cases e), (fun e => by cases e), (fun e => by cases e)⟩)
 clear h
 go_enter Tryz.func17, Tryz.ntmps17
 go_upto_region 1 with fail
 clear eg; generalize w.alloc (.cells #[.slice none 0 0, .slice none 0 0, I O 0, I O 0, I O 0, .slice none 0 0, I O 0, I O 0, I O 0, I O 0] 29) = w0 at *
 go_cut [3] (fun s3 wx => ∃ (g3 q d : Nat) (r : RY) (Y : YLaw), s3 = .pointer (some ⟨g3, 0, none⟩) ∧ LawV w wx t l q g g3 d r Y)
 case first =>
  refine wp_region_held_drew (S := fun _ => True) (by kernel_rfl) trivial (fun _ => ?_)
  show wpAnyH Tryz.prog .any lawOps _ (fun _ => True) 22 #[false, false, false, false, false, false, false, false, false, false, false, false, false, false, false, false, false, false, false, false, false, false] _ _
  refine tkC 0 4 (fun _ _ _ h => h) ?_
  simp only [Act.put, mnA, mnB, mnC]; refine tkC 2 6 (fun _ _ _ h => h) ?_; simp only [Act.put, mnA, mnB, mnC]; refine tkC 4 8 (fun _ _ _ h => h) ?_; simp only [Act.put, mnA, mnB, mnC]; refine tkC 6 10 (fun _ _ _ h => h) ?_; simp only [Act.put, mnA, mnB, mnC]; refine tkC 8 12 (fun _ _ _ h => h) ?_; simp only [Act.put, mnA, mnB, mnC]; refine tkC 10 14 (fun _ _ _ h => h) ?_; simp only [Act.put, mnA, mnB, mnC]; refine tkC 13 17 (fun _ _ _ h => h) ?_; simp only [Act.put, mnA, mnB, mnC]; refine tkC 17 21 (fun _ _ _ h => h) ?_; simp only [Act.put, mnA, mnB, mnC]; refine lawN0000 J0.out ⟨fun S W J => ?_, fun _ _ s _ _ h => by cases s <;> exact h⟩; have J9 := mh J.lawV
  go_wp2_with fail
  go_meet
  exact ⟨_, _, _, _, _, rfl, J9.out⟩
 case rest =>
  clear J0; obtain ⟨g3, q, d, ⟨sp, sn, sc, tp, tn, tc, ldue, llast, lmille, gp, gn, gc, cp, ev, un, wd⟩, Y, rfl, hL⟩ := hcut; have L1 := mh hL; obtain ⟨c1, ec1⟩ : ∃ c, (gives l q 2 == 2 - 1) = c := ⟨_, rfl⟩; have T1 := mh (one_any t l q 2 wc hL.tp.tape (by omega) (by omega)); rw [ec1] at T1; clear ec1 hL; generalize taken l q = q' at *
  go_wp2_with fail
  (with_reducible refine cmo T1.out ?_); rintro e w2 ⟨rfl, ht2, hb2⟩; have L2 := mh (L1.out.next ht2 hb2); clear ht2 hb2
  cases c1
  ·obtain ⟨c2, ec2⟩ : ∃ c, (gives l q' 2 == 2 - 1) = c := ⟨_, rfl⟩
   have T2 := mh (one_any t l q' 2 w2 L2.out.tp.tape (by omega) (by omega)); rw [ec2] at T2; clear ec2; generalize taken l q' = q2 at *
   go_wp2_with fail
   (with_reducible refine cmo T2.out ?_); rintro e w4 ⟨rfl, ht4, hb4⟩; have L4 := mh (L2.out.next ht4 hb4); clear ht4 hb4
   cases c2
   ·have VB := L4.out.vb
    simp only [yCells] at VB; have k0 := VB.cell 0; have k1 := VB.cell 1; have k2 := VB.cell 2; have k3 := VB.cell 3; have k4 := VB.cell 4; have k5 := VB.cell 5; have k6 := VB.cell 6; have k7 := VB.cell 7; have k8 := VB.cell 8; have k9 := VB.cell 9; clear VB; have z0 := L4.out.res.cell 0; have z1 := L4.out.res.cell 1; have z2 := L4.out.res.cell 2; have z3 := L4.out.res.cell 3; have z4 := L4.out.res.cell 4; have z5 := L4.out.res.cell 5; have z6 := L4.out.res.cell 6; have z7 := L4.out.res.cell 7; have z8 := L4.out.res.cell 8; have z9 := L4.out.res.cell 9; have f0 := L4.out.res.fr 0; have f1 := L4.out.res.fr 1; have f2 := L4.out.res.fr 2; have f3 := L4.out.res.fr 3; have f4 := L4.out.res.fr 4; have f5 := L4.out.res.fr 5; have f6 := L4.out.res.fr 6; have f7 := L4.out.res.fr 7; have f8 := L4.out.res.fr 8; have f9 := L4.out.res.fr 9; have BF := mh (put10_blk L4.out.res ⟨_, _, _, _, _, _, _, _, _, _, rfl⟩ (.slice sp sn sc) (.slice tp tn tc) (I O ldue) (I O llast) (I O lmille) (.slice gp gn gc) (I O cp) (I O ev) (I O un) (I O wd)); have PF := mh (L4.out.fin (.slice sp sn sc) (.slice tp tn tc) (I O ldue) (I O llast) (I O lmille) (.slice gp gn gc) (I O cp) (I O ev) (I O un) (I O wd)); have OK := mh (And.intro L4.out.ok (And.intro L4.out.len (And.intro L4.out.due L4.out.sm)))
    go_wp2
    unfold put10 at BF PF; generalize ((((((((((w4.setCell ⟨g, 0, none⟩ (.slice sp sn sc)).setCell ⟨g, 1, none⟩ (.slice tp tn tc)).setCell ⟨g, 2, none⟩ (I O ldue)).setCell ⟨g, 3, none⟩ (I O llast)).setCell ⟨g, 4, none⟩ (I O lmille)).setCell ⟨g, 5, none⟩ (.slice gp gn gc)).setCell ⟨g, 6, none⟩ (I O cp)).setCell ⟨g, 7, none⟩ (I O ev)).setCell ⟨g, 8, none⟩ (I O un)).setCell ⟨g, 9, none⟩ (I O wd)) = wf at *; have d0 := BF.out.cell 0; have d1 := BF.out.cell 1; have d2 := BF.out.cell 2; have d3 := BF.out.cell 3; have d4 := BF.out.cell 4; have d5 := BF.out.cell 5; have d6 := BF.out.cell 6; have d7 := BF.out.cell 7; have d8 := BF.out.cell 8; have d9 := BF.out.cell 9; exact bodyPost_ret (v := .agg #[.slice sp sn sc, .slice tp tn tc, I O ldue, I O llast, I O lmille, .slice gp gn gc, I O cp, I O ev, I O un, I O wd]) (by simp [results, Tryz.results17, go_sem, d0, d1, d2, d3, d4, d5, d6, d7, d8, d9]) rfl ⟨_, ⟨sp, sn, sc, tp, tn, tc, ldue, llast, lmille, gp, gn, gc, cp, ev, un, wd⟩, _, _, rfl, PF.out.1, OK.out.1, OK.out.2.1, OK.out.2.2.1, OK.out.2.2.2, PF.out.2⟩
   ·have VB7 := L4.out.vb
    simp only [yCells] at VB7; have k7 := VB7.cell 7; clear VB7; have m7 := L4.out.vb.fr 7; have L5 := mh (L4.out.env 10000000 (by omega) (by omega))
    go_upto_region 6 with fail
    generalize w4.setCell ⟨g3, 7, none⟩ (I O 10000000) = w5 at *; clear k7 m7; have VB := L5.out.vb; simp only [yCells] at VB; have k0 := VB.cell 0; have k1 := VB.cell 1; have k2 := VB.cell 2; have k3 := VB.cell 3; have k4 := VB.cell 4; have k5 := VB.cell 5; have k6 := VB.cell 6; have k7 := VB.cell 7; have k8 := VB.cell 8; have k9 := VB.cell 9; clear VB; have z0 := L5.out.res.cell 0; have z1 := L5.out.res.cell 1; have z2 := L5.out.res.cell 2; have z3 := L5.out.res.cell 3; have z4 := L5.out.res.cell 4; have z5 := L5.out.res.cell 5; have z6 := L5.out.res.cell 6; have z7 := L5.out.res.cell 7; have z8 := L5.out.res.cell 8; have z9 := L5.out.res.cell 9; have f0 := L5.out.res.fr 0; have f1 := L5.out.res.fr 1; have f2 := L5.out.res.fr 2; have f3 := L5.out.res.fr 3; have f4 := L5.out.res.fr 4; have f5 := L5.out.res.fr 5; have f6 := L5.out.res.fr 6; have f7 := L5.out.res.fr 7; have f8 := L5.out.res.fr 8; have f9 := L5.out.res.fr 9; have BF := mh (put10_blk L5.out.res ⟨_, _, _, _, _, _, _, _, _, _, rfl⟩ (.slice sp sn sc) (.slice tp tn tc) (I O ldue) (I O llast) (I O lmille) (.slice gp gn gc) (I O cp) (I O 10000000) (I O un) (I O wd)); have PF := mh (L5.out.fin (.slice sp sn sc) (.slice tp tn tc) (I O ldue) (I O llast) (I O lmille) (.slice gp gn gc) (I O cp) (I O 10000000) (I O un) (I O wd)); have OK := mh (And.intro L5.out.ok (And.intro L5.out.len (And.intro L5.out.due L5.out.sm)))
    go_wp2
    unfold put10 at BF PF; generalize ((((((((((w5.setCell ⟨g, 0, none⟩ (.slice sp sn sc)).setCell ⟨g, 1, none⟩ (.slice tp tn tc)).setCell ⟨g, 2, none⟩ (I O ldue)).setCell ⟨g, 3, none⟩ (I O llast)).setCell ⟨g, 4, none⟩ (I O lmille)).setCell ⟨g, 5, none⟩ (.slice gp gn gc)).setCell ⟨g, 6, none⟩ (I O cp)).setCell ⟨g, 7, none⟩ (I O 10000000)).setCell ⟨g, 8, none⟩ (I O un)).setCell ⟨g, 9, none⟩ (I O wd)) = wf at *; have d0 := BF.out.cell 0; have d1 := BF.out.cell 1; have d2 := BF.out.cell 2; have d3 := BF.out.cell 3; have d4 := BF.out.cell 4; have d5 := BF.out.cell 5; have d6 := BF.out.cell 6; have d7 := BF.out.cell 7; have d8 := BF.out.cell 8; have d9 := BF.out.cell 9; exact bodyPost_ret (v := .agg #[.slice sp sn sc, .slice tp tn tc, I O ldue, I O llast, I O lmille, .slice gp gn gc, I O cp, I O 10000000, I O un, I O wd]) (by simp [results, Tryz.results17, go_sem, d0, d1, d2, d3, d4, d5, d6, d7, d8, d9]) rfl ⟨_, ⟨sp, sn, sc, tp, tn, tc, ldue, llast, lmille, gp, gn, gc, cp, 10000000, un, wd⟩, _, _, rfl, PF.out.1, OK.out.1, OK.out.2.1, OK.out.2.2.1, OK.out.2.2.2, PF.out.2⟩
  ·have VB6 := L2.out.vb
   simp only [yCells] at VB6; have k6 := VB6.cell 6; clear VB6; have m6 := L2.out.vb.fr 6; have L3 := mh (L2.out.capd 1000000 (by omega) (by omega))
   go_upto_region 4 with fail
   generalize w2.setCell ⟨g3, 6, none⟩ (I O 1000000) = w3 at *; clear k6 m6; obtain ⟨c2, ec2⟩ : ∃ c, (gives l q' 2 == 2 - 1) = c := ⟨_, rfl⟩; have T2 := mh (one_any t l q' 2 w3 L3.out.tp.tape (by omega) (by omega)); rw [ec2] at T2; clear ec2; generalize taken l q' = q2 at *
   go_wp2_with fail
   (with_reducible refine cmo T2.out ?_); rintro e w4 ⟨rfl, ht4, hb4⟩; have L4 := mh (L3.out.next ht4 hb4); clear ht4 hb4
   cases c2
   ·have VB := L4.out.vb
    simp only [yCells] at VB; have k0 := VB.cell 0; have k1 := VB.cell 1; have k2 := VB.cell 2; have k3 := VB.cell 3; have k4 := VB.cell 4; have k5 := VB.cell 5; have k6 := VB.cell 6; have k7 := VB.cell 7; have k8 := VB.cell 8; have k9 := VB.cell 9; clear VB; have z0 := L4.out.res.cell 0; have z1 := L4.out.res.cell 1; have z2 := L4.out.res.cell 2; have z3 := L4.out.res.cell 3; have z4 := L4.out.res.cell 4; have z5 := L4.out.res.cell 5; have z6 := L4.out.res.cell 6; have z7 := L4.out.res.cell 7; have z8 := L4.out.res.cell 8; have z9 := L4.out.res.cell 9; have f0 := L4.out.res.fr 0; have f1 := L4.out.res.fr 1; have f2 := L4.out.res.fr 2; have f3 := L4.out.res.fr 3; have f4 := L4.out.res.fr 4; have f5 := L4.out.res.fr 5; have f6 := L4.out.res.fr 6; have f7 := L4.out.res.fr 7; have f8 := L4.out.res.fr 8; have f9 := L4.out.res.fr 9; have BF := mh (put10_blk L4.out.res ⟨_, _, _, _, _, _, _, _, _, _, rfl⟩ (.slice sp sn sc) (.slice tp tn tc) (I O ldue) (I O llast) (I O lmille) (.slice gp gn gc) (I O 1000000) (I O ev) (I O un) (I O wd)); have PF := mh (L4.out.fin (.slice sp sn sc) (.slice tp tn tc) (I O ldue) (I O llast) (I O lmille) (.slice gp gn gc) (I O 1000000) (I O ev) (I O un) (I O wd)); have OK := mh (And.intro L4.out.ok (And.intro L4.out.len (And.intro L4.out.due L4.out.sm)))
    go_wp2
    unfold put10 at BF PF; generalize ((((((((((w4.setCell ⟨g, 0, none⟩ (.slice sp sn sc)).setCell ⟨g, 1, none⟩ (.slice tp tn tc)).setCell ⟨g, 2, none⟩ (I O ldue)).setCell ⟨g, 3, none⟩ (I O llast)).setCell ⟨g, 4, none⟩ (I O lmille)).setCell ⟨g, 5, none⟩ (.slice gp gn gc)).setCell ⟨g, 6, none⟩ (I O 1000000)).setCell ⟨g, 7, none⟩ (I O ev)).setCell ⟨g, 8, none⟩ (I O un)).setCell ⟨g, 9, none⟩ (I O wd)) = wf at *; have d0 := BF.out.cell 0; have d1 := BF.out.cell 1; have d2 := BF.out.cell 2; have d3 := BF.out.cell 3; have d4 := BF.out.cell 4; have d5 := BF.out.cell 5; have d6 := BF.out.cell 6; have d7 := BF.out.cell 7; have d8 := BF.out.cell 8; have d9 := BF.out.cell 9; exact bodyPost_ret (v := .agg #[.slice sp sn sc, .slice tp tn tc, I O ldue, I O llast, I O lmille, .slice gp gn gc, I O 1000000, I O ev, I O un, I O wd]) (by simp [results, Tryz.results17, go_sem, d0, d1, d2, d3, d4, d5, d6, d7, d8, d9]) rfl ⟨_, ⟨sp, sn, sc, tp, tn, tc, ldue, llast, lmille, gp, gn, gc, 1000000, ev, un, wd⟩, _, _, rfl, PF.out.1, OK.out.1, OK.out.2.1, OK.out.2.2.1, OK.out.2.2.2, PF.out.2⟩
   ·have VB7 := L4.out.vb
    simp only [yCells] at VB7; have k7 := VB7.cell 7; clear VB7; have m7 := L4.out.vb.fr 7; have L5 := mh (L4.out.env 10000000 (by omega) (by omega))
    go_upto_region 6 with fail
    generalize w4.setCell ⟨g3, 7, none⟩ (I O 10000000) = w5 at *; clear k7 m7; have VB := L5.out.vb; simp only [yCells] at VB; have k0 := VB.cell 0; have k1 := VB.cell 1; have k2 := VB.cell 2; have k3 := VB.cell 3; have k4 := VB.cell 4; have k5 := VB.cell 5; have k6 := VB.cell 6; have k7 := VB.cell 7; have k8 := VB.cell 8; have k9 := VB.cell 9; clear VB; have z0 := L5.out.res.cell 0; have z1 := L5.out.res.cell 1; have z2 := L5.out.res.cell 2; have z3 := L5.out.res.cell 3; have z4 := L5.out.res.cell 4; have z5 := L5.out.res.cell 5; have z6 := L5.out.res.cell 6; have z7 := L5.out.res.cell 7; have z8 := L5.out.res.cell 8; have z9 := L5.out.res.cell 9; have f0 := L5.out.res.fr 0; have f1 := L5.out.res.fr 1; have f2 := L5.out.res.fr 2; have f3 := L5.out.res.fr 3; have f4 := L5.out.res.fr 4; have f5 := L5.out.res.fr 5; have f6 := L5.out.res.fr 6; have f7 := L5.out.res.fr 7; have f8 := L5.out.res.fr 8; have f9 := L5.out.res.fr 9; have BF := mh (put10_blk L5.out.res ⟨_, _, _, _, _, _, _, _, _, _, rfl⟩ (.slice sp sn sc) (.slice tp tn tc) (I O ldue) (I O llast) (I O lmille) (.slice gp gn gc) (I O 1000000) (I O 10000000) (I O un) (I O wd)); have PF := mh (L5.out.fin (.slice sp sn sc) (.slice tp tn tc) (I O ldue) (I O llast) (I O lmille) (.slice gp gn gc) (I O 1000000) (I O 10000000) (I O un) (I O wd)); have OK := mh (And.intro L5.out.ok (And.intro L5.out.len (And.intro L5.out.due L5.out.sm)))
    go_wp2
    unfold put10 at BF PF; generalize ((((((((((w5.setCell ⟨g, 0, none⟩ (.slice sp sn sc)).setCell ⟨g, 1, none⟩ (.slice tp tn tc)).setCell ⟨g, 2, none⟩ (I O ldue)).setCell ⟨g, 3, none⟩ (I O llast)).setCell ⟨g, 4, none⟩ (I O lmille)).setCell ⟨g, 5, none⟩ (.slice gp gn gc)).setCell ⟨g, 6, none⟩ (I O 1000000)).setCell ⟨g, 7, none⟩ (I O 10000000)).setCell ⟨g, 8, none⟩ (I O un)).setCell ⟨g, 9, none⟩ (I O wd)) = wf at *; have d0 := BF.out.cell 0; have d1 := BF.out.cell 1; have d2 := BF.out.cell 2; have d3 := BF.out.cell 3; have d4 := BF.out.cell 4; have d5 := BF.out.cell 5; have d6 := BF.out.cell 6; have d7 := BF.out.cell 7; have d8 := BF.out.cell 8; have d9 := BF.out.cell 9; exact bodyPost_ret (v := .agg #[.slice sp sn sc, .slice tp tn tc, I O ldue, I O llast, I O lmille, .slice gp gn gc, I O 1000000, I O 10000000, I O un, I O wd]) (by simp [results, Tryz.results17, go_sem, d0, d1, d2, d3, d4, d5, d6, d7, d8, d9]) rfl ⟨_, ⟨sp, sn, sc, tp, tn, tc, ldue, llast, lmille, gp, gn, gc, 1000000, 10000000, un, wd⟩, _, _, rfl, PF.out.1, OK.out.1, OK.out.2.1, OK.out.2.2.1, OK.out.2.2.2, PF.out.2⟩
end Go.Proofs.YtmlfcpglhipjgaaGreat
namespace Go.Proofs.YtmlfcpglhipjgaaGreat
open Go.RowKit Sc As
structure RowsR {ρ β : Type} (S : Shape ρ) (V : (Nat → Prop) → World → ρ → β → Prop) (T : TypeId) (B : Nat) (W : World) (v : Value) (R : List ρ) (K : List β) : Prop where
 hl : R.length = K.length
 own : OwnR S W T B v R
 rows : ∀ k (h : k < R.length) (h' : k < K.length), V (Qx B v none) W R[k] K[k]
def Chgs {ρ β : Type} (V : (Nat → Prop) → World → ρ → β → Prop) : Prop := ∀ (Q Q' : Nat → Prop) (w w' : World) (r : ρ) (x : β), V Q w r x → w.heap.size ≤ w'.heap.size → (∀ b, Q b → b < w.heap.size → w'.heap[b]? = w.heap[b]? ∧ Q' b) → V Q' w' r x
section
variable {ρ β : Type} {S : Shape ρ} {V : (Nat → Prop) → World → ρ → β → Prop} {T : TypeId} {B t G : Nat} {W w' w5 w6 : World} {v v6 : Value} {R : List ρ} {K : List β} {r : ρ} {x : β}
theorem RowsR.nil (S : Shape ρ) (V : (Nat → Prop) → World → ρ → β → Prop) (T : TypeId) (B : Nat) (W : World) : RowsR S V T B W (.slice none 0 0) [] [] := ⟨rfl, OwnR.nil _ _ _, fun k h => by simp at h⟩
theorem RowsR.blocks (hV : Chgs V) (h : RowsR S V T B W v R K) (hs : W.heap.size ≤ w'.heap.size) (hb : ∀ b, B ≤ b → b < W.heap.size → w'.heap[b]? = W.heap[b]?) : RowsR S V T B w' v R K :=
 ⟨h.hl, h.own.blocks fun g _ h3 h4 => hb g h3 h4, fun k a b => hV _ _ _ _ _ _ (h.rows k a b) hs fun b q hl => ⟨hb b q.1 hl, q⟩⟩
theorem RowsR.below (hV : Chgs V) (h : RowsR S V T B W v R K) (hb : Below W.heap.size W w') : RowsR S V T B w' v R K := h.blocks hV hb.size fun b _ hl => hb.block b hl
theorem RowsR.push (hV : Chgs V) (h : RowsR S V T B W v R K) (hB : B ≤ W.heap.size) (hb : But t W w5) (ht : t < B) (hG : w5.heap.size ≤ G) (hv : V (NewQ W.heap.size) w5 r x)
  (hO : OwnR S w6 T B v6 (R ++ [r])) (hap : Appends w5 w6 B G v v6) : RowsR S V T B w6 v6 (R ++ [r]) (K ++ [x]) := by
 have hsz : W.heap.size ≤ w6.heap.size := Nat.le_trans hb.size hap.size; refine ⟨by rw [lap, lap, h.hl]; rfl, hO, fun k a b => ?_⟩
 by_cases hlt : k < R.length
 ·rw [List.getElem_append_left hlt, List.getElem_append_left (by rw [← h.hl]; exact hlt)]
  refine hV _ _ _ _ _ _ (h.rows k hlt (by rw [← h.hl]; exact hlt)) hsz fun b q hl => ?_
  have hl5 := nll hl hb.size; exact ⟨(hap.far b hl5 q.2.1).trans (hb.block b hl (by have := q.1; omega)), q.1, hap.apart hG hl5 q.2.1, fun e => by cases e⟩
 ·have ek : k = R.length := by rw [lap] at a; simp at a; omega
  subst ek; rw [List.getElem_append_right mle, List.getElem_append_right (by rw [h.hl]; exact Nat.le_refl _)]; simp only [Nat.sub_self, h.hl, List.getElem_cons_zero]; refine hV _ _ _ _ _ _ hv hap.size fun b q hl => ?_
  have hn : v.ownBlock ≠ some b := fun e => by have := (h.own.lt e).2; unfold NewQ at q; omega
  exact ⟨hap.far b hl hn, by unfold NewQ at q; omega, hap.apart hG hl hn, fun e => by cases e⟩
end
end Go.Proofs.YtmlfcpglhipjgaaGreat
namespace Go.Proofs.YtmlfcpglhipjgaaGreat
open Go.RowKit Sc As
def As.Due (A : List Awd) : Prop := A.length ≤ 1000 ∧ ∀ a ∈ A, 0 ≤ a.due ∧ a.due ≤ 68719476736
theorem As.total_take {A : List Awd} {k : Nat} (hk : k < A.length) : total (A.take (k + 1)) = total (A.take k) + A[k].due := by
 rw [tsg hk, total_snoc]
theorem As.Due.bd {A : List Awd} (h : Due A) : ∀ {k : Nat}, k ≤ A.length → 0 ≤ total (A.take k) ∧ total (A.take k) ≤ 68719476736 * k
 | 0, _ => by simp [total, Sh.sum]
 | k + 1, hk => by
   have ih := h.bd (k := k) (by omega); have := h.2 A[k] (List.getElem_mem (show k < A.length by omega)); rw [total_take (by omega)]
   push_cast
   omega
theorem As.amount_take {A : List Awd} {farm : Int} {k : Nat} (hk : k < A.length) : amount (A.take (k + 1)) farm = amount (A.take k) farm + if A[k].farm = farm then A[k].due else 0 := by
 unfold amount; rw [tsg hk, List.map_append, List.map_singleton, Sh.sum_snoc]
theorem As.Due.bda {A : List Awd} (h : Due A) (farm : Int) : ∀ {k : Nat}, k ≤ A.length → 0 ≤ amount (A.take k) farm ∧ amount (A.take k) farm ≤ 68719476736 * k
 | 0, _ => by simp [amount, Sh.sum]
 | k + 1, hk => by
   have ih := h.bda farm (k := k) (by omega); have := h.2 A[k] (List.getElem_mem (show k < A.length by omega)); rw [amount_take (by omega)]
   push_cast
   split <;> omega
theorem amount34_any (p : Option Addr) (A : List Awd) (c : Nat) (farm : Int) (w : World) (h : Recs SA w p A) (hd : Due A) : Calls Tryz.prog 31 #[.slice p A.length c, I O farm] w (IntG (amount A farm) w) := by
 have H := mh h; have HD := mh hd; have hlen := h.len; have hl := hd.1; clear h hd
 go_enter Tryz.func31, Tryz.ntmps31
 go_wp2
 go_loopw [5, 10] (fun s i wr => ∃ k : Nat, k ≤ A.length ∧ i = I O k ∧ s = I O (amount (A.take k) farm) ∧ Below w.heap.size w wr) (fun _ i _ => A.length - (intOf i).toNat)
 case atStart => exact ⟨0, Nat.zero_le _, rfl, rfl, brf _ _⟩
 case round =>
  obtain ⟨wo, rfl⟩ : ∃ wo : World, wo = wr := ⟨_, rfl⟩; obtain ⟨k, hk, rfl, rfl, hb⟩ := hrel; have hk0 : (0 : Int) ≤ (k : Int) := inn _; have BD := HD.out.bda farm hk
  by_cases hlt : k < A.length
  ·have hk1 : (k : Int) < (A.length : Int) := by omega
   obtain ⟨b, off, e, hbl, ⟨c0, c1, c2, c3, c4, c5, c6, c7, c8⟩⟩ := SA_at (H.out.below hb) hlt
   cases e
   have ST := amount_take (farm := farm) hlt; have ha := HD.out.2 A[k] (List.getElem_mem hlt); obtain ⟨⟨a1, a2, a3, a4, a5, a6, a7, a8, a9⟩, ea⟩ : ∃ a, A[k] = a := ⟨_, rfl⟩; rw [ea] at c0 c1 c2 c3 c4 c5 c6 c7 c8 ST ha; simp only at c0 c1 c2 c3 c4 c5 c6 c7 c8 ST ha; obtain ⟨T, eT⟩ : ∃ T, amount (A.take k) farm = T := ⟨_, rfl⟩; rw [eT] at BD ST ⊢; have hw : IntKind.i64.wrap (T + a9) = T + a9 := by rw [IntKind.wrap_i64]; omega
   have HB := mh (balloc mle hb (.cells #[I O a1, I O a2, I O a3, I O a4, I O a5, I O a6, I O a7, I O a8, I O a9] 60))
   by_cases hf : a1 = farm
   ·have STH := mh (show amount (A.take (k + 1)) farm = T + a9 from by rw [ST, if_pos hf])
    have hfb : (a1 == farm) = true := by simpa using hf
    clear ST BD ha ea eT hb hf
    go_wp2
    go_roundw
    case rel => exact ⟨k + 1, by omega, by go_num, by rw [STH.out], HB.out⟩
    case measure => simp [intOf]; omega
   ·have STH := mh (show amount (A.take (k + 1)) farm = T from by rw [ST, if_neg hf, Int.add_zero])
    have hfb : (a1 == farm) = false := by simpa using hf
    clear ST BD ha ea eT hb hf hw
    go_wp2
    go_roundw
    case rel => exact ⟨k + 1, by omega, by go_num, by rw [STH.out], HB.out⟩
    case measure => simp [intOf]; omega
  ·obtain rfl : k = A.length := by omega
   have HB := mh hb; rw [List.take_length] at *; clear hb
   go_wp2
   go_ret
   exact ⟨rfl, HB.out⟩
def aw34S : Sch := ⟨2, ⟨#[97]⟩, tmTrue, [⟨1000, 200⟩], 0, 0, false⟩
theorem Pairs.lit8 (w : World) (T : TypeId) (D : List (Int × Int)) (hl : D.length ≤ maxLen) : Pairs (w.alloc (.cells (pcells D).toArray T)) (some ⟨w.heap.size, 0, none⟩) D := by
 refine ⟨hl, .inr ⟨_, 0, rfl, by simp, fun j hj => ?_⟩⟩
 have hp := pcells_at D j hj; rw [Nat.zero_add, cwn, cwn]
 simpa using hp
structure Opn (w W : World) (t : Nat) (l : List Int) (q g d : Nat) (r : RY) (Y : YLaw) : Prop where
 tape : TapeAt W t l q
 low : Below w.heap.size w W
 wt : w.heap.size ≤ t
 yv : YV (fun b => t < b) W d r Y
 vb : Blk W g (yCells r).toArray 29
 tg : t < g
 ok : YOk Y
 len : Y.sch.length ≤ 3
 due : Y.late.due < 40
 sm : ∀ s ∈ Y.sch, SmallS s
section
variable {w w1 w2 W W' : World} {t q q' g d : Nat} {l : List Int} {r : RY} {Y : YLaw}
theorem Opn.next (h : Opn w W t l q g d r Y) (ht : TapeAt W' t l q') (hb : But t W W') : Opn w W' t l q' g d r Y := by
 have hw := h.wt; have hs := h.low.size; have htg := h.tg; exact ⟨ht, h.low.trans (hb.below hw (by omega)), hw, h.yv.change hb.size fun b k hl => ⟨hb.block b hl (by omega), k⟩, h.vb.but hb (by omega), h.tg, h.ok, h.len, h.due, h.sm⟩
theorem Opn.below (h : Opn w W t l q g d r Y) (hb : Below W.heap.size W W') : Opn w W' t l q g d r Y := h.next (h.tape.below hb) (.of_below hb)
theorem Opn.init {T : TypeId} {l : List Int} (hb : Below w.heap.size w w1) (ht : w.heap.size < w1.heap.size) (hy : YV (NewQ w1.heap.size) w2 d r Y) (ho : YOk Y) (hl : Y.sch.length ≤ 3) (hd : Y.late.due < 40) (hs : ∀ s ∈ Y.sch, SmallS s) (hp : TpB w1 w2 w.heap.size l q) (hT : T = 29) :
  Opn w (w2.alloc (.cells (yCells r).toArray T)) w.heap.size l q w2.heap.size d r Y := by
 subst hT; have hA := (brf w2.heap.size w2).alloc mle (.cells (yCells r).toArray 29); have h2 := hp.but.size; refine ⟨hp.tape.below hA, (hb.trans (hp.but.below mle hb.size)).trans (hA.mono (by omega)), Nat.le_refl _, hy.change hA.size fun b k hl => ⟨hA.block b hl, by unfold NewQ at k; omega⟩, Blk.new _ _ _, by omega, ho, hl, hd, hs⟩
end
theorem As.Falls.due {l : YLaw} {A : List Awd} (h : Falls l A) : Due A := ⟨by have := h.len; omega, fun a ha => by have := h.each a ha; omega⟩
end Go.Proofs.YtmlfcpglhipjgaaGreat
