/-
  PACKED (pack8.py): what is needed of the texts Nw.
-/
import Derived.Test.YtmlfcpglhipjgaaGreatM36
import Derived.Test.YtmlfcpglhipjgaaGreatM42
set_option maxRecDepth 100000
set_option maxHeartbeats 8000000
open Go.Value renaming int → I
open Go.IntKind renaming i64 → O
namespace Go.Proofs.YtmlfcpglhipjgaaGreat
open Go.RowKit Sc As
theorem LsAt.two {Q : Nat → Prop} {W : World} {r0 r1 : RL} {x0 x1 : LineF} (h0 : LV Q W r0 x0) (h1 : LV Q W r1 x1) (hq : Q W.heap.size) (T : TypeId) : LsAt Q (W.alloc (.cells (lCells r0 ++ lCells r1).toArray T)) (some ⟨W.heap.size, 0, none⟩) [x0, x1] := by
 have hA : Below W.heap.size W (W.alloc (.cells (lCells r0 ++ lCells r1).toArray T)) := (brf _ _).alloc mle _; refine ⟨⟨[r0, r1], rfl, Recs.lit (S := SL) W T [r0, r1] (by show 2 ≤ _; unfold maxLen; omega), fun k a b => ?_⟩, fun a e => .inr (by cases e; exact hq)⟩
 match k, a with
 | 0, _ => exact h0.below hA
 | 1, _ => exact h1.below hA
theorem NmA.store {w W : World} {t q g d gf gl : Nat} {l : List Int} {r : RY} {Y : YLaw} {K : List LineF} {p : Value} (h : Opn w W t l q g d r Y) (hb : Blk W gf #[I O 0, I O 0, .slice none 0 0] 47) (hg : t < gf) (hg2 : g < gf) (hL : LsAt (fun b => t < b ∧ b ≠ gf) W (some ⟨gl, 0, none⟩) K) :
  TapeAt (((W.setCell ⟨gf, 0, none⟩ (I O 2)).setCell ⟨gf, 1, none⟩ (I O 9)).setCell ⟨gf, 2, none⟩ p) t l q ∧ Below w.heap.size w (((W.setCell ⟨gf, 0, none⟩ (I O 2)).setCell ⟨gf, 1, none⟩ (I O 9)).setCell ⟨gf, 2, none⟩ p) ∧ Blk (((W.setCell ⟨gf, 0, none⟩ (I O 2)).setCell ⟨gf, 1, none⟩ (I O 9)).setCell ⟨gf, 2, none⟩ p) gf #[I O 2, I O 9, p] 47 ∧ LsAt (fun b => t < b ∧ b ≠ gf) (((W.setCell ⟨gf, 0, none⟩ (I O 2)).setCell ⟨gf, 1, none⟩ (I O 9)).setCell ⟨gf, 2, none⟩ p) (some ⟨gl, 0, none⟩) K ∧
   Blk (((W.setCell ⟨gf, 0, none⟩ (I O 2)).setCell ⟨gf, 1, none⟩ (I O 9)).setCell ⟨gf, 2, none⟩ p) g (yCells r).toArray 29 := by
 have hw := h.wt; have hB : Below (t + 1) W (((W.setCell ⟨gf, 0, none⟩ (I O 2)).setCell ⟨gf, 1, none⟩ (I O 9)).setCell ⟨gf, 2, none⟩ p) := (((brf (t + 1) W).setCell (p := ⟨gf, 0, none⟩) hg _).setCell (p := ⟨gf, 1, none⟩) hg _).setCell (p := ⟨gf, 2, none⟩) hg _; have hf : ∀ b, b ≠ gf → (((W.setCell ⟨gf, 0, none⟩ (I O 2)).setCell ⟨gf, 1, none⟩ (I O 9)).setCell ⟨gf, 2, none⟩ p).heap[b]? = W.heap[b]? := fun b e => by rw [setCell_far _ e, setCell_far _ e, setCell_far _ e]
 refine ⟨h.tape.belowB hB (Nat.lt_succ_self t), h.low.trans (hB.mono (by omega)), ((hb.set 0 _).set 1 _).set 2 _, hL.change hB.size fun b k _ => ⟨hf b k.2, k⟩, (hf g (by omega)).trans h.vb⟩
theorem recomputeNames_walk (a : Option Addr) (len cap : Nat) (z : List Int) (kind : Int) (w : World) (w0 : IsRow .i64 w a len cap z) (hkw : (Lit.int .u8 kind).wf = true) :
  Calls Tryz.prog 12 #[.slice a len cap, .int .u8 kind] w fun e w' => e = .returned (.bool true) ∧ Below w.heap.size w w' := by
 obtain ⟨hIr, hLr⟩ := w0.ints; have NW := mh (new_any a len cap z w w0); obtain ⟨l, el⟩ : ∃ l, (z.take len).take 400 = l := ⟨_, rfl⟩; rw [el] at NW; clear el hIr hLr w0
 go_enter Tryz.func12, Tryz.ntmps12
 go_wp2_with fail
 (with_reducible refine cmo NW.out ?_); rintro e w1 ⟨rfl, ht1, hb1⟩; have LW := mh (law2_any w.heap.size l 0 w1 ht1); have HT1 := mh ht1.lt; have HB1 := mh hb1; clear NW ht1 hb1
 go_wp2_with fail
 (with_reducible refine cmo LW.out ?_); rintro e w2 ⟨d, r, Y, q, rfl, hy, hok, hlen, hdue, hsm, hp⟩; have O2 := mh (Opn.init (T := 29) HB1.out HT1.out hy hok hlen hdue hsm hp rfl); clear hy hok hlen hdue hsm hp LW; obtain ⟨sp, sn, sc, tp, tn, tc, ldue, llast, lmille, gp, gn, gc, cp, ev, un, wd⟩ := r; simp only [yCells] at O2 ⊢; obtain ⟨g, eg⟩ : ∃ g, w2.heap.size = g := ⟨_, rfl⟩; rw [eg] at O2
 go_upto_region 3 with fail
 clear eg; generalize w2.alloc (.cells #[.slice sp sn sc, .slice tp tn tc, I O ldue, I O llast, I O lmille, .slice gp gn gc, I O cp, I O ev, I O un, I O wd] 29) = w3 at *; have O0 := mh (O2.out.below (brf _ _).drew); clear O2; have LN := mh (fun (W : World) (q' : Nat) (h : Opn w W w.heap.size l q' g d ⟨sp, sn, sc, tp, tn, tc, ldue, llast, lmille, gp, gn, gc, cp, ev, un, wd⟩ Y) => line2_any (Q := fun b => w.heap.size < b) d w.heap.size l q' ⟨sp, sn, sc, tp, tn, tc, ldue, llast, lmille, gp, gn, gc, cp, ev, un, wd⟩ Y W h.tape (fun b k => by omega) h.yv.sch h.yv.sn h.ok); simp only [yCells] at LN; have KS := mh (fun (W : World) (q' : Nat) (h : Opn w W w.heap.size l q' g d ⟨sp, sn, sc, tp, tn, tc, ldue, llast, lmille, gp, gn, gc, cp, ev, un, wd⟩ Y) => show W.cell? ⟨g, 0, none⟩ = some (.slice sp sn sc) ∧ W.cell? ⟨g, 1, none⟩ = some (.slice tp tn tc) ∧ W.cell? ⟨g, 2, none⟩ = some (I O ldue) ∧ W.cell? ⟨g, 3, none⟩ = some (I O llast) ∧ W.cell? ⟨g, 4, none⟩ = some (I O lmille) ∧ W.cell? ⟨g, 5, none⟩ = some (.slice gp gn gc) ∧ W.cell? ⟨g, 6, none⟩ = some (I O cp) ∧ W.cell? ⟨g, 7, none⟩ = some (I O ev) ∧ W.cell? ⟨g, 8, none⟩ = some (I O un) ∧ W.cell? ⟨g, 9, none⟩ = some (I O wd) from ⟨h.vb.cell 0, h.vb.cell 1, h.vb.cell 2, h.vb.cell 3, h.vb.cell 4, h.vb.cell 5, h.vb.cell 6, h.vb.cell 7, h.vb.cell 8, h.vb.cell 9⟩); have KK0 := mh (KS.out _ _ O0.out)
 go_cut [7] (fun s W => ∃ (q gf gl : Nat) (x0 x1 : LineF), s = .pointer (some ⟨gf, 0, none⟩) ∧ TapeAt W w.heap.size l q ∧ Below w.heap.size w W ∧ Blk W gf #[I O 2, I O 9, .slice (some ⟨gl, 0, none⟩) 2 2] 47 ∧ w.heap.size < gf ∧ LsAt (fun b => w.heap.size < b ∧ b ≠ gf) W (some ⟨gl, 0, none⟩) [x0, x1] ∧ LineOk Y x0 ∧ LineOk Y x1)
 case first =>
  refine wp_region_held_drew (S := fun w' => w'.cell? ⟨g, 0, none⟩ = some (.slice sp sn sc) ∧ w'.cell? ⟨g, 1, none⟩ = some (.slice tp tn tc) ∧ w'.cell? ⟨g, 2, none⟩ = some (I O ldue) ∧ w'.cell? ⟨g, 3, none⟩ = some (I O llast) ∧ w'.cell? ⟨g, 4, none⟩ = some (I O lmille) ∧ w'.cell? ⟨g, 5, none⟩ = some (.slice gp gn gc) ∧ w'.cell? ⟨g, 6, none⟩ = some (I O cp) ∧ w'.cell? ⟨g, 7, none⟩ = some (I O ev) ∧ w'.cell? ⟨g, 8, none⟩ = some (I O un) ∧ w'.cell? ⟨g, 9, none⟩ = some (I O wd)) (by kernel_rfl) KK0.out (fun hHeld => ?_)
  generalize w3.drew = wq at *; refine tkD 0 15 ?_; refine tkD 1 16 ?_; refine tkD 3 18 ?_; refine tkD 4 19 ?_; refine wpAnyH_ready (rs := [2, 8]) (by kernel_rfl) (by simp) ?_; refine AllReadyH.cons (o := ⟨some 17, _, _, _, _, _⟩) rfl (fun K9 hK => ?_) ?_
  ·go_simp
   (with_reducible refine cmo (LN.out _ _ O0.out) ?_); rintro e wa ⟨⟨dl0, ls0, dp0, dn0, dc0, se0, ki0, ar0, bo0⟩, x0, q0, rfl, hv, hok, -, hp⟩; simp only [lCells]; have O1 := mh (O0.out.next hp.tape hp.but); have hpb := hp.but; have VA1 := mh (show LV (fun b => w.heap.size < b) wa _ x0 from hv.change mle fun b k _ => ⟨rfl, by have := O0.out.tape.lt; unfold NewQ at k; omega⟩); have K0 := mh hok; have KK1 := mh (KS.out _ _ O1.out); clear hv hok hp hpb
   go_wp2_with fail
   refine hK.out _ _ KK1.out (fun _ => ?_)
   clear hK K9
   (try dsimp only [Act.put])
   try simp only [mnA, mnB, mnC]
   refine wpAnyH_ready (rs := [5, 8]) (by kernel_rfl) (by simp) ?_
   refine AllReadyH.cons (o := ⟨some 20, _, _, _, _, _⟩) rfl (fun K9 hK => ?_) ?_
   ·go_simp
    (with_reducible refine cmo (LN.out _ _ O1.out) ?_); rintro e wab ⟨⟨dl1, ls1, dp1, dn1, dc1, se1, ki1, ar1, bo1⟩, x1, q1, rfl, hv, hok, -, hp⟩; simp only [lCells]; have O2 := mh (O1.out.next hp.tape hp.but); have hpb := hp.but; have VB2 := mh (show LV (fun b => w.heap.size < b) wab _ x1 from hv.change mle fun b k _ => ⟨rfl, by have := O1.out.tape.lt; unfold NewQ at k; omega⟩); have K1 := mh hok; have VA2 := mh (VA1.out.change hpb.size fun b k hl => ⟨hpb.block b hl (by omega), k⟩); have KK2 := mh (KS.out _ _ O2.out); clear hv hok hp hpb
    go_wp2_with fail
    refine hK.out _ _ KK2.out (fun _ => ?_)
    clear hK K9
    (try dsimp only [Act.put])
    try simp only [mnA, mnB, mnC]
    refine wpAnyH_ready (rs := [6, 8]) (by kernel_rfl) (by simp) ?_
    refine AllReadyH.cons (o := ⟨some 21, _, _, _, _, _⟩) rfl (fun K9 hK => ?_) ?_
    ·go_simp
     have hal := (brf wab.heap.size wab).alloc mle (.cells #[I O dl0, I O ls0, .slice dp0 dn0 dc0, I O se0, I O ki0, I O ar0, I O bo0, I O dl1, I O ls1, .slice dp1 dn1 dc1, I O se1, I O ki1, I O ar1, I O bo1] 68); have O3 := mh (O2.out.below hal); have KK3 := mh (KS.out _ _ O3.out); obtain ⟨gl, egl⟩ : ∃ g, wab.heap.size = g := ⟨_, rfl⟩; have SL3 := mh (show LsAt (fun b => w.heap.size < b) (wab.alloc (.cells #[I O dl0, I O ls0, .slice dp0 dn0 dc0, I O se0, I O ki0, I O ar0, I O bo0, I O dl1, I O ls1, .slice dp1 dn1 dc1, I O se1, I O ki1, I O ar1, I O bo1] 68)) (some ⟨gl, 0, none⟩) [x0, x1] from egl ▸ LsAt.two VA2.out VB2.out O2.out.tape.lt _); rw [egl]; clear hal egl; generalize wab.alloc (.cells #[I O dl0, I O ls0, .slice dp0 dn0 dc0, I O se0, I O ki0, I O ar0, I O bo0, I O dl1, I O ls1, .slice dp1 dn1 dc1, I O se1, I O ki1, I O ar1, I O bo1] 68) = wabs at *; refine hK.out _ _ KK3.out (fun _ => ?_); clear hK K9
     (try dsimp only [Act.put])
     try simp only [mnA, mnB, mnC]
     refine tkA 7 22 ?_
     simp only [Act.put, mnA, mnB, mnC]; refine rdA 8 7 (fun K9 hK => ?_); go_simp; have hal := (brf wabs.heap.size wabs).alloc mle (.cells #[I O 0, I O 0, .slice none 0 0] 47); have O4 := mh (O3.out.below hal); have KK4 := mh (KS.out _ _ O4.out); obtain ⟨gf, egf⟩ : ∃ g, wabs.heap.size = g := ⟨_, rfl⟩; have XM4 := mh (egf ▸ Blk.new wabs #[I O 0, I O 0, .slice none 0 0] 47); have HGF := mh (show w.heap.size < gf ∧ g < gf from egf ▸ ⟨O3.out.tape.lt, O3.out.vb.lt⟩); have SL4 := mh (show LsAt (fun b => w.heap.size < b ∧ b ≠ gf) _ _ _ from SL3.out.change hal.size fun b k hl => ⟨hal.block b hl, by omega⟩); rw [egf]; clear hal egf; generalize wabs.alloc (.cells #[I O 0, I O 0, .slice none 0 0] 47) = wabsm at *; refine hK.out _ _ KK4.out (fun _ => ?_); clear hK K9
     (try dsimp only [Act.put])
     try simp only [mnA, mnB, mnC]
     refine wpAnyH_ready (rs := [9]) (by kernel_rfl) (by simp) ?_
     refine AllReadyH.cons (o := ⟨none, _, _, _, _, _⟩) rfl (fun K9 hK => ?_) AllReadyH.nil
     have y0 := XM4.out.fr 0; have y1 := XM4.out.fr 1; have y2 := XM4.out.fr 2; have z0 := XM4.out.cell 0; have z1 := XM4.out.cell 1; have z2 := XM4.out.cell 2; have NF := mh (NmA.store (p := .slice (some ⟨gl, 0, none⟩) 2 2) O4.out XM4.out HGF.out.1 HGF.out.2 SL4.out); have KF := mh (show (((wabsm.setCell ⟨gf, 0, none⟩ (I O 2)).setCell ⟨gf, 1, none⟩ (I O 9)).setCell ⟨gf, 2, none⟩ (.slice (some ⟨gl, 0, none⟩) 2 2)).cell? ⟨g, 0, none⟩ = some (.slice sp sn sc) ∧ (((wabsm.setCell ⟨gf, 0, none⟩ (I O 2)).setCell ⟨gf, 1, none⟩ (I O 9)).setCell ⟨gf, 2, none⟩ (.slice (some ⟨gl, 0, none⟩) 2 2)).cell? ⟨g, 1, none⟩ = some (.slice tp tn tc) ∧ (((wabsm.setCell ⟨gf, 0, none⟩ (I O 2)).setCell ⟨gf, 1, none⟩ (I O 9)).setCell ⟨gf, 2, none⟩ (.slice (some ⟨gl, 0, none⟩) 2 2)).cell? ⟨g, 2, none⟩ = some (I O ldue) ∧ (((wabsm.setCell ⟨gf, 0, none⟩ (I O 2)).setCell ⟨gf, 1, none⟩ (I O 9)).setCell ⟨gf, 2, none⟩ (.slice (some ⟨gl, 0, none⟩) 2 2)).cell? ⟨g, 3, none⟩ = some (I O llast) ∧ (((wabsm.setCell ⟨gf, 0, none⟩ (I O 2)).setCell ⟨gf, 1, none⟩ (I O 9)).setCell ⟨gf, 2, none⟩ (.slice (some ⟨gl, 0, none⟩) 2 2)).cell? ⟨g, 4, none⟩ = some (I O lmille) ∧ (((wabsm.setCell ⟨gf, 0, none⟩ (I O 2)).setCell ⟨gf, 1, none⟩ (I O 9)).setCell ⟨gf, 2, none⟩ (.slice (some ⟨gl, 0, none⟩) 2 2)).cell? ⟨g, 5, none⟩ = some (.slice gp gn gc) ∧ (((wabsm.setCell ⟨gf, 0, none⟩ (I O 2)).setCell ⟨gf, 1, none⟩ (I O 9)).setCell ⟨gf, 2, none⟩ (.slice (some ⟨gl, 0, none⟩) 2 2)).cell? ⟨g, 6, none⟩ = some (I O cp) ∧ (((wabsm.setCell ⟨gf, 0, none⟩ (I O 2)).setCell ⟨gf, 1, none⟩ (I O 9)).setCell ⟨gf, 2, none⟩ (.slice (some ⟨gl, 0, none⟩) 2 2)).cell? ⟨g, 7, none⟩ = some (I O ev) ∧ (((wabsm.setCell ⟨gf, 0, none⟩ (I O 2)).setCell ⟨gf, 1, none⟩ (I O 9)).setCell ⟨gf, 2, none⟩ (.slice (some ⟨gl, 0, none⟩) 2 2)).cell? ⟨g, 8, none⟩ = some (I O un) ∧ (((wabsm.setCell ⟨gf, 0, none⟩ (I O 2)).setCell ⟨gf, 1, none⟩ (I O 9)).setCell ⟨gf, 2, none⟩ (.slice (some ⟨gl, 0, none⟩) 2 2)).cell? ⟨g, 9, none⟩ = some (I O wd) from ⟨NF.out.2.2.2.2.cell 0, NF.out.2.2.2.2.cell 1, NF.out.2.2.2.2.cell 2, NF.out.2.2.2.2.cell 3, NF.out.2.2.2.2.cell 4, NF.out.2.2.2.2.cell 5, NF.out.2.2.2.2.cell 6, NF.out.2.2.2.2.cell 7, NF.out.2.2.2.2.cell 8, NF.out.2.2.2.2.cell 9⟩); go_simp; refine hK.out _ _ KF.out (fun _ => ?_); clear hK K9
     (try dsimp only [Act.put])
     try simp only [mnA, mnB, mnC]
     refine wpAnyH_done (by kernel_rfl) ?_ _
     go_wp2_with fail
     go_meet
     exact ⟨_, gf, gl, x0, x1, rfl, NF.out.1, NF.out.2.1, NF.out.2.2.1, HGF.out.1, NF.out.2.2.2.1, K0.out, K1.out⟩
    refine AllReadyH.cons (o := ⟨some 7, _, _, _, _, _⟩) rfl (fun K9 hK => ?_) AllReadyH.nil
    go_simp
    have hal := (brf wab.heap.size wab).alloc mle (.cells #[I O 0, I O 0, .slice none 0 0] 47); have O3 := mh (O2.out.below hal); have KK3 := mh (KS.out _ _ O3.out); obtain ⟨gf, egf⟩ : ∃ g, wab.heap.size = g := ⟨_, rfl⟩; have XM3 := mh (egf ▸ Blk.new wab #[I O 0, I O 0, .slice none 0 0] 47); have HGF := mh (show w.heap.size < gf ∧ g < gf from egf ▸ ⟨O2.out.tape.lt, O2.out.vb.lt⟩); have VA3 := mh (show LV (fun b => w.heap.size < b ∧ b ≠ gf) _ _ _ from VA2.out.change hal.size fun b k hl => ⟨hal.block b hl, by omega⟩); have VB3 := mh (show LV (fun b => w.heap.size < b ∧ b ≠ gf) _ _ _ from VB2.out.change hal.size fun b k hl => ⟨hal.block b hl, by omega⟩); rw [egf]; clear hal egf; generalize wab.alloc (.cells #[I O 0, I O 0, .slice none 0 0] 47) = wabm at *; refine hK.out _ _ KK3.out (fun _ => ?_); clear hK K9
    (try dsimp only [Act.put])
    try simp only [mnA, mnB, mnC]
    refine rdA 6 21 (fun K9 hK => ?_)
    go_simp
    have hal := (brf wabm.heap.size wabm).alloc mle (.cells #[I O dl0, I O ls0, .slice dp0 dn0 dc0, I O se0, I O ki0, I O ar0, I O bo0, I O dl1, I O ls1, .slice dp1 dn1 dc1, I O se1, I O ki1, I O ar1, I O bo1] 68); have O4 := mh (O3.out.below hal); have XM4 := mh (XM3.out.below hal); have KK4 := mh (KS.out _ _ O4.out); obtain ⟨gl, egl⟩ : ∃ g, wabm.heap.size = g := ⟨_, rfl⟩; have SL4 := mh (show LsAt (fun b => w.heap.size < b ∧ b ≠ gf) (wabm.alloc (.cells #[I O dl0, I O ls0, .slice dp0 dn0 dc0, I O se0, I O ki0, I O ar0, I O bo0, I O dl1, I O ls1, .slice dp1 dn1 dc1, I O se1, I O ki1, I O ar1, I O bo1] 68)) (some ⟨gl, 0, none⟩) [x0, x1] from egl ▸ LsAt.two VA3.out VB3.out (by have := O3.out.tape.lt; have := XM3.out.lt; omega) _); rw [egl]; clear hal egl; generalize wabm.alloc (.cells #[I O dl0, I O ls0, .slice dp0 dn0 dc0, I O se0, I O ki0, I O ar0, I O bo0, I O dl1, I O ls1, .slice dp1 dn1 dc1, I O se1, I O ki1, I O ar1, I O bo1] 68) = wabms at *; refine hK.out _ _ KK4.out (fun _ => ?_); clear hK K9
    (try dsimp only [Act.put])
    try simp only [mnA, mnB, mnC]
    refine tkA 7 22 ?_
    simp only [Act.put, mnA, mnB, mnC]; refine wpAnyH_ready (rs := [9]) (by kernel_rfl) (by simp) ?_; refine AllReadyH.cons (o := ⟨none, _, _, _, _, _⟩) rfl (fun K9 hK => ?_) AllReadyH.nil; have y0 := XM4.out.fr 0; have y1 := XM4.out.fr 1; have y2 := XM4.out.fr 2; have z0 := XM4.out.cell 0; have z1 := XM4.out.cell 1; have z2 := XM4.out.cell 2; have NF := mh (NmA.store (p := .slice (some ⟨gl, 0, none⟩) 2 2) O4.out XM4.out HGF.out.1 HGF.out.2 SL4.out); have KF := mh (show (((wabms.setCell ⟨gf, 0, none⟩ (I O 2)).setCell ⟨gf, 1, none⟩ (I O 9)).setCell ⟨gf, 2, none⟩ (.slice (some ⟨gl, 0, none⟩) 2 2)).cell? ⟨g, 0, none⟩ = some (.slice sp sn sc) ∧ (((wabms.setCell ⟨gf, 0, none⟩ (I O 2)).setCell ⟨gf, 1, none⟩ (I O 9)).setCell ⟨gf, 2, none⟩ (.slice (some ⟨gl, 0, none⟩) 2 2)).cell? ⟨g, 1, none⟩ = some (.slice tp tn tc) ∧ (((wabms.setCell ⟨gf, 0, none⟩ (I O 2)).setCell ⟨gf, 1, none⟩ (I O 9)).setCell ⟨gf, 2, none⟩ (.slice (some ⟨gl, 0, none⟩) 2 2)).cell? ⟨g, 2, none⟩ = some (I O ldue) ∧ (((wabms.setCell ⟨gf, 0, none⟩ (I O 2)).setCell ⟨gf, 1, none⟩ (I O 9)).setCell ⟨gf, 2, none⟩ (.slice (some ⟨gl, 0, none⟩) 2 2)).cell? ⟨g, 3, none⟩ = some (I O llast) ∧ (((wabms.setCell ⟨gf, 0, none⟩ (I O 2)).setCell ⟨gf, 1, none⟩ (I O 9)).setCell ⟨gf, 2, none⟩ (.slice (some ⟨gl, 0, none⟩) 2 2)).cell? ⟨g, 4, none⟩ = some (I O lmille) ∧ (((wabms.setCell ⟨gf, 0, none⟩ (I O 2)).setCell ⟨gf, 1, none⟩ (I O 9)).setCell ⟨gf, 2, none⟩ (.slice (some ⟨gl, 0, none⟩) 2 2)).cell? ⟨g, 5, none⟩ = some (.slice gp gn gc) ∧ (((wabms.setCell ⟨gf, 0, none⟩ (I O 2)).setCell ⟨gf, 1, none⟩ (I O 9)).setCell ⟨gf, 2, none⟩ (.slice (some ⟨gl, 0, none⟩) 2 2)).cell? ⟨g, 6, none⟩ = some (I O cp) ∧ (((wabms.setCell ⟨gf, 0, none⟩ (I O 2)).setCell ⟨gf, 1, none⟩ (I O 9)).setCell ⟨gf, 2, none⟩ (.slice (some ⟨gl, 0, none⟩) 2 2)).cell? ⟨g, 7, none⟩ = some (I O ev) ∧ (((wabms.setCell ⟨gf, 0, none⟩ (I O 2)).setCell ⟨gf, 1, none⟩ (I O 9)).setCell ⟨gf, 2, none⟩ (.slice (some ⟨gl, 0, none⟩) 2 2)).cell? ⟨g, 8, none⟩ = some (I O un) ∧ (((wabms.setCell ⟨gf, 0, none⟩ (I O 2)).setCell ⟨gf, 1, none⟩ (I O 9)).setCell ⟨gf, 2, none⟩ (.slice (some ⟨gl, 0, none⟩) 2 2)).cell? ⟨g, 9, none⟩ = some (I O wd) from ⟨NF.out.2.2.2.2.cell 0, NF.out.2.2.2.2.cell 1, NF.out.2.2.2.2.cell 2, NF.out.2.2.2.2.cell 3, NF.out.2.2.2.2.cell 4, NF.out.2.2.2.2.cell 5, NF.out.2.2.2.2.cell 6, NF.out.2.2.2.2.cell 7, NF.out.2.2.2.2.cell 8, NF.out.2.2.2.2.cell 9⟩); go_simp; refine hK.out _ _ KF.out (fun _ => ?_); clear hK K9
    (try dsimp only [Act.put])
    try simp only [mnA, mnB, mnC]
    refine wpAnyH_done (by kernel_rfl) ?_ _
    go_wp2_with fail
    go_meet
    exact ⟨_, gf, gl, x0, x1, rfl, NF.out.1, NF.out.2.1, NF.out.2.2.1, HGF.out.1, NF.out.2.2.2.1, K0.out, K1.out⟩
   refine AllReadyH.cons (o := ⟨some 7, _, _, _, _, _⟩) rfl (fun K9 hK => ?_) AllReadyH.nil
   go_simp
   have hal := (brf wa.heap.size wa).alloc mle (.cells #[I O 0, I O 0, .slice none 0 0] 47); have O2 := mh (O1.out.below hal); have KK2 := mh (KS.out _ _ O2.out); obtain ⟨gf, egf⟩ : ∃ g, wa.heap.size = g := ⟨_, rfl⟩; have XM2 := mh (egf ▸ Blk.new wa #[I O 0, I O 0, .slice none 0 0] 47); have HGF := mh (show w.heap.size < gf ∧ g < gf from egf ▸ ⟨O1.out.tape.lt, O1.out.vb.lt⟩); have VA2 := mh (show LV (fun b => w.heap.size < b ∧ b ≠ gf) _ _ _ from VA1.out.change hal.size fun b k hl => ⟨hal.block b hl, by omega⟩); rw [egf]; clear hal egf; generalize wa.alloc (.cells #[I O 0, I O 0, .slice none 0 0] 47) = wam at *; refine hK.out _ _ KK2.out (fun _ => ?_); clear hK K9
   (try dsimp only [Act.put])
   try simp only [mnA, mnB, mnC]
   refine rdA 5 20 (fun K9 hK => ?_)
   go_simp
   (with_reducible refine cmo (LN.out _ _ O2.out) ?_); rintro e wamb ⟨⟨dl1, ls1, dp1, dn1, dc1, se1, ki1, ar1, bo1⟩, x1, q1, rfl, hv, hok, -, hp⟩; simp only [lCells]; have O3 := mh (O2.out.next hp.tape hp.but); have hpb := hp.but; have VB3 := mh (show LV (fun b => w.heap.size < b ∧ b ≠ gf) wamb _ x1 from hv.change mle fun b k _ => ⟨rfl, by have := O2.out.tape.lt; have := XM2.out.lt; unfold NewQ at k; omega⟩); have K1 := mh hok; have VA3 := mh (VA2.out.change hpb.size fun b k hl => ⟨hpb.block b hl (by omega), k⟩); have XM3 := mh (XM2.out.but hpb (by have := HGF.out; omega)); have KK3 := mh (KS.out _ _ O3.out); clear hv hok hp hpb
   go_wp2_with fail
   refine hK.out _ _ KK3.out (fun _ => ?_)
   clear hK K9
   (try dsimp only [Act.put])
   try simp only [mnA, mnB, mnC]
   refine rdA 6 21 (fun K9 hK => ?_)
   go_simp
   have hal := (brf wamb.heap.size wamb).alloc mle (.cells #[I O dl0, I O ls0, .slice dp0 dn0 dc0, I O se0, I O ki0, I O ar0, I O bo0, I O dl1, I O ls1, .slice dp1 dn1 dc1, I O se1, I O ki1, I O ar1, I O bo1] 68); have O4 := mh (O3.out.below hal); have XM4 := mh (XM3.out.below hal); have KK4 := mh (KS.out _ _ O4.out); obtain ⟨gl, egl⟩ : ∃ g, wamb.heap.size = g := ⟨_, rfl⟩; have SL4 := mh (show LsAt (fun b => w.heap.size < b ∧ b ≠ gf) (wamb.alloc (.cells #[I O dl0, I O ls0, .slice dp0 dn0 dc0, I O se0, I O ki0, I O ar0, I O bo0, I O dl1, I O ls1, .slice dp1 dn1 dc1, I O se1, I O ki1, I O ar1, I O bo1] 68)) (some ⟨gl, 0, none⟩) [x0, x1] from egl ▸ LsAt.two VA3.out VB3.out (by have := O3.out.tape.lt; have := XM3.out.lt; omega) _); rw [egl]; clear hal egl; generalize wamb.alloc (.cells #[I O dl0, I O ls0, .slice dp0 dn0 dc0, I O se0, I O ki0, I O ar0, I O bo0, I O dl1, I O ls1, .slice dp1 dn1 dc1, I O se1, I O ki1, I O ar1, I O bo1] 68) = wambs at *; refine hK.out _ _ KK4.out (fun _ => ?_); clear hK K9
   (try dsimp only [Act.put])
   try simp only [mnA, mnB, mnC]
   refine tkA 7 22 ?_
   simp only [Act.put, mnA, mnB, mnC]; refine wpAnyH_ready (rs := [9]) (by kernel_rfl) (by simp) ?_; refine AllReadyH.cons (o := ⟨none, _, _, _, _, _⟩) rfl (fun K9 hK => ?_) AllReadyH.nil; have y0 := XM4.out.fr 0; have y1 := XM4.out.fr 1; have y2 := XM4.out.fr 2; have z0 := XM4.out.cell 0; have z1 := XM4.out.cell 1; have z2 := XM4.out.cell 2; have NF := mh (NmA.store (p := .slice (some ⟨gl, 0, none⟩) 2 2) O4.out XM4.out HGF.out.1 HGF.out.2 SL4.out); have KF := mh (show (((wambs.setCell ⟨gf, 0, none⟩ (I O 2)).setCell ⟨gf, 1, none⟩ (I O 9)).setCell ⟨gf, 2, none⟩ (.slice (some ⟨gl, 0, none⟩) 2 2)).cell? ⟨g, 0, none⟩ = some (.slice sp sn sc) ∧ (((wambs.setCell ⟨gf, 0, none⟩ (I O 2)).setCell ⟨gf, 1, none⟩ (I O 9)).setCell ⟨gf, 2, none⟩ (.slice (some ⟨gl, 0, none⟩) 2 2)).cell? ⟨g, 1, none⟩ = some (.slice tp tn tc) ∧ (((wambs.setCell ⟨gf, 0, none⟩ (I O 2)).setCell ⟨gf, 1, none⟩ (I O 9)).setCell ⟨gf, 2, none⟩ (.slice (some ⟨gl, 0, none⟩) 2 2)).cell? ⟨g, 2, none⟩ = some (I O ldue) ∧ (((wambs.setCell ⟨gf, 0, none⟩ (I O 2)).setCell ⟨gf, 1, none⟩ (I O 9)).setCell ⟨gf, 2, none⟩ (.slice (some ⟨gl, 0, none⟩) 2 2)).cell? ⟨g, 3, none⟩ = some (I O llast) ∧ (((wambs.setCell ⟨gf, 0, none⟩ (I O 2)).setCell ⟨gf, 1, none⟩ (I O 9)).setCell ⟨gf, 2, none⟩ (.slice (some ⟨gl, 0, none⟩) 2 2)).cell? ⟨g, 4, none⟩ = some (I O lmille) ∧ (((wambs.setCell ⟨gf, 0, none⟩ (I O 2)).setCell ⟨gf, 1, none⟩ (I O 9)).setCell ⟨gf, 2, none⟩ (.slice (some ⟨gl, 0, none⟩) 2 2)).cell? ⟨g, 5, none⟩ = some (.slice gp gn gc) ∧ (((wambs.setCell ⟨gf, 0, none⟩ (I O 2)).setCell ⟨gf, 1, none⟩ (I O 9)).setCell ⟨gf, 2, none⟩ (.slice (some ⟨gl, 0, none⟩) 2 2)).cell? ⟨g, 6, none⟩ = some (I O cp) ∧ (((wambs.setCell ⟨gf, 0, none⟩ (I O 2)).setCell ⟨gf, 1, none⟩ (I O 9)).setCell ⟨gf, 2, none⟩ (.slice (some ⟨gl, 0, none⟩) 2 2)).cell? ⟨g, 7, none⟩ = some (I O ev) ∧ (((wambs.setCell ⟨gf, 0, none⟩ (I O 2)).setCell ⟨gf, 1, none⟩ (I O 9)).setCell ⟨gf, 2, none⟩ (.slice (some ⟨gl, 0, none⟩) 2 2)).cell? ⟨g, 8, none⟩ = some (I O un) ∧ (((wambs.setCell ⟨gf, 0, none⟩ (I O 2)).setCell ⟨gf, 1, none⟩ (I O 9)).setCell ⟨gf, 2, none⟩ (.slice (some ⟨gl, 0, none⟩) 2 2)).cell? ⟨g, 9, none⟩ = some (I O wd) from ⟨NF.out.2.2.2.2.cell 0, NF.out.2.2.2.2.cell 1, NF.out.2.2.2.2.cell 2, NF.out.2.2.2.2.cell 3, NF.out.2.2.2.2.cell 4, NF.out.2.2.2.2.cell 5, NF.out.2.2.2.2.cell 6, NF.out.2.2.2.2.cell 7, NF.out.2.2.2.2.cell 8, NF.out.2.2.2.2.cell 9⟩); go_simp; refine hK.out _ _ KF.out (fun _ => ?_); clear hK K9
   (try dsimp only [Act.put])
   try simp only [mnA, mnB, mnC]
   refine wpAnyH_done (by kernel_rfl) ?_ _
   go_wp2_with fail
   go_meet
   exact ⟨_, gf, gl, x0, x1, rfl, NF.out.1, NF.out.2.1, NF.out.2.2.1, HGF.out.1, NF.out.2.2.2.1, K0.out, K1.out⟩
  refine AllReadyH.cons (o := ⟨some 7, _, _, _, _, _⟩) rfl (fun K9 hK => ?_) AllReadyH.nil
  go_simp
  have hal := (brf wq.heap.size wq).alloc mle (.cells #[I O 0, I O 0, .slice none 0 0] 47); have O1 := mh (O0.out.below hal); have KK1 := mh (KS.out _ _ O1.out); obtain ⟨gf, egf⟩ : ∃ g, wq.heap.size = g := ⟨_, rfl⟩; have XM1 := mh (egf ▸ Blk.new wq #[I O 0, I O 0, .slice none 0 0] 47); have HGF := mh (show w.heap.size < gf ∧ g < gf from egf ▸ ⟨O0.out.tape.lt, O0.out.vb.lt⟩); rw [egf]; clear hal egf; generalize wq.alloc (.cells #[I O 0, I O 0, .slice none 0 0] 47) = wm at *; refine hK.out _ _ KK1.out (fun _ => ?_); clear hK K9
  (try dsimp only [Act.put])
  try simp only [mnA, mnB, mnC]
  refine rdA 2 17 (fun K9 hK => ?_)
  go_simp
  (with_reducible refine cmo (LN.out _ _ O1.out) ?_); rintro e wma ⟨⟨dl0, ls0, dp0, dn0, dc0, se0, ki0, ar0, bo0⟩, x0, q0, rfl, hv, hok, -, hp⟩; simp only [lCells]; have O2 := mh (O1.out.next hp.tape hp.but); have hpb := hp.but; have VA2 := mh (show LV (fun b => w.heap.size < b ∧ b ≠ gf) wma _ x0 from hv.change mle fun b k _ => ⟨rfl, by have := O1.out.tape.lt; have := XM1.out.lt; unfold NewQ at k; omega⟩); have K0 := mh hok; have XM2 := mh (XM1.out.but hpb (by have := HGF.out; omega)); have KK2 := mh (KS.out _ _ O2.out); clear hv hok hp hpb
  go_wp2_with fail
  refine hK.out _ _ KK2.out (fun _ => ?_)
  clear hK K9
  (try dsimp only [Act.put])
  try simp only [mnA, mnB, mnC]
  refine rdA 5 20 (fun K9 hK => ?_)
  go_simp
  (with_reducible refine cmo (LN.out _ _ O2.out) ?_); rintro e wmab ⟨⟨dl1, ls1, dp1, dn1, dc1, se1, ki1, ar1, bo1⟩, x1, q1, rfl, hv, hok, -, hp⟩; simp only [lCells]; have O3 := mh (O2.out.next hp.tape hp.but); have hpb := hp.but; have VB3 := mh (show LV (fun b => w.heap.size < b ∧ b ≠ gf) wmab _ x1 from hv.change mle fun b k _ => ⟨rfl, by have := O2.out.tape.lt; have := XM2.out.lt; unfold NewQ at k; omega⟩); have K1 := mh hok; have VA3 := mh (VA2.out.change hpb.size fun b k hl => ⟨hpb.block b hl (by omega), k⟩); have XM3 := mh (XM2.out.but hpb (by have := HGF.out; omega)); have KK3 := mh (KS.out _ _ O3.out); clear hv hok hp hpb
  go_wp2_with fail
  refine hK.out _ _ KK3.out (fun _ => ?_)
  clear hK K9
  (try dsimp only [Act.put])
  try simp only [mnA, mnB, mnC]
  refine rdA 6 21 (fun K9 hK => ?_)
  go_simp
  have hal := (brf wmab.heap.size wmab).alloc mle (.cells #[I O dl0, I O ls0, .slice dp0 dn0 dc0, I O se0, I O ki0, I O ar0, I O bo0, I O dl1, I O ls1, .slice dp1 dn1 dc1, I O se1, I O ki1, I O ar1, I O bo1] 68); have O4 := mh (O3.out.below hal); have XM4 := mh (XM3.out.below hal); have KK4 := mh (KS.out _ _ O4.out); obtain ⟨gl, egl⟩ : ∃ g, wmab.heap.size = g := ⟨_, rfl⟩; have SL4 := mh (show LsAt (fun b => w.heap.size < b ∧ b ≠ gf) (wmab.alloc (.cells #[I O dl0, I O ls0, .slice dp0 dn0 dc0, I O se0, I O ki0, I O ar0, I O bo0, I O dl1, I O ls1, .slice dp1 dn1 dc1, I O se1, I O ki1, I O ar1, I O bo1] 68)) (some ⟨gl, 0, none⟩) [x0, x1] from egl ▸ LsAt.two VA3.out VB3.out (by have := O3.out.tape.lt; have := XM3.out.lt; omega) _); rw [egl]; clear hal egl; generalize wmab.alloc (.cells #[I O dl0, I O ls0, .slice dp0 dn0 dc0, I O se0, I O ki0, I O ar0, I O bo0, I O dl1, I O ls1, .slice dp1 dn1 dc1, I O se1, I O ki1, I O ar1, I O bo1] 68) = wmabs at *; refine hK.out _ _ KK4.out (fun _ => ?_); clear hK K9
  (try dsimp only [Act.put])
  try simp only [mnA, mnB, mnC]
  refine tkA 7 22 ?_
  simp only [Act.put, mnA, mnB, mnC]; refine wpAnyH_ready (rs := [9]) (by kernel_rfl) (by simp) ?_; refine AllReadyH.cons (o := ⟨none, _, _, _, _, _⟩) rfl (fun K9 hK => ?_) AllReadyH.nil; have y0 := XM4.out.fr 0; have y1 := XM4.out.fr 1; have y2 := XM4.out.fr 2; have z0 := XM4.out.cell 0; have z1 := XM4.out.cell 1; have z2 := XM4.out.cell 2; have NF := mh (NmA.store (p := .slice (some ⟨gl, 0, none⟩) 2 2) O4.out XM4.out HGF.out.1 HGF.out.2 SL4.out); have KF := mh (show (((wmabs.setCell ⟨gf, 0, none⟩ (I O 2)).setCell ⟨gf, 1, none⟩ (I O 9)).setCell ⟨gf, 2, none⟩ (.slice (some ⟨gl, 0, none⟩) 2 2)).cell? ⟨g, 0, none⟩ = some (.slice sp sn sc) ∧ (((wmabs.setCell ⟨gf, 0, none⟩ (I O 2)).setCell ⟨gf, 1, none⟩ (I O 9)).setCell ⟨gf, 2, none⟩ (.slice (some ⟨gl, 0, none⟩) 2 2)).cell? ⟨g, 1, none⟩ = some (.slice tp tn tc) ∧ (((wmabs.setCell ⟨gf, 0, none⟩ (I O 2)).setCell ⟨gf, 1, none⟩ (I O 9)).setCell ⟨gf, 2, none⟩ (.slice (some ⟨gl, 0, none⟩) 2 2)).cell? ⟨g, 2, none⟩ = some (I O ldue) ∧ (((wmabs.setCell ⟨gf, 0, none⟩ (I O 2)).setCell ⟨gf, 1, none⟩ (I O 9)).setCell ⟨gf, 2, none⟩ (.slice (some ⟨gl, 0, none⟩) 2 2)).cell? ⟨g, 3, none⟩ = some (I O llast) ∧ (((wmabs.setCell ⟨gf, 0, none⟩ (I O 2)).setCell ⟨gf, 1, none⟩ (I O 9)).setCell ⟨gf, 2, none⟩ (.slice (some ⟨gl, 0, none⟩) 2 2)).cell? ⟨g, 4, none⟩ = some (I O lmille) ∧ (((wmabs.setCell ⟨gf, 0, none⟩ (I O 2)).setCell ⟨gf, 1, none⟩ (I O 9)).setCell ⟨gf, 2, none⟩ (.slice (some ⟨gl, 0, none⟩) 2 2)).cell? ⟨g, 5, none⟩ = some (.slice gp gn gc) ∧ (((wmabs.setCell ⟨gf, 0, none⟩ (I O 2)).setCell ⟨gf, 1, none⟩ (I O 9)).setCell ⟨gf, 2, none⟩ (.slice (some ⟨gl, 0, none⟩) 2 2)).cell? ⟨g, 6, none⟩ = some (I O cp) ∧ (((wmabs.setCell ⟨gf, 0, none⟩ (I O 2)).setCell ⟨gf, 1, none⟩ (I O 9)).setCell ⟨gf, 2, none⟩ (.slice (some ⟨gl, 0, none⟩) 2 2)).cell? ⟨g, 7, none⟩ = some (I O ev) ∧ (((wmabs.setCell ⟨gf, 0, none⟩ (I O 2)).setCell ⟨gf, 1, none⟩ (I O 9)).setCell ⟨gf, 2, none⟩ (.slice (some ⟨gl, 0, none⟩) 2 2)).cell? ⟨g, 8, none⟩ = some (I O un) ∧ (((wmabs.setCell ⟨gf, 0, none⟩ (I O 2)).setCell ⟨gf, 1, none⟩ (I O 9)).setCell ⟨gf, 2, none⟩ (.slice (some ⟨gl, 0, none⟩) 2 2)).cell? ⟨g, 9, none⟩ = some (I O wd) from ⟨NF.out.2.2.2.2.cell 0, NF.out.2.2.2.2.cell 1, NF.out.2.2.2.2.cell 2, NF.out.2.2.2.2.cell 3, NF.out.2.2.2.2.cell 4, NF.out.2.2.2.2.cell 5, NF.out.2.2.2.2.cell 6, NF.out.2.2.2.2.cell 7, NF.out.2.2.2.2.cell 8, NF.out.2.2.2.2.cell 9⟩); go_simp; refine hK.out _ _ KF.out (fun _ => ?_); clear hK K9
  (try dsimp only [Act.put])
  try simp only [mnA, mnB, mnC]
  refine wpAnyH_done (by kernel_rfl) ?_ _
  go_wp2_with fail
  go_meet
  exact ⟨_, gf, gl, x0, x1, rfl, NF.out.1, NF.out.2.1, NF.out.2.2.1, HGF.out.1, NF.out.2.2.2.1, K0.out, K1.out⟩
 case rest =>
  obtain ⟨q, gf, gl, x0, x1, rfl, hT, hB, hF, hgf, hL, hx0, hx1⟩ := hcut; obtain ⟨w4, rfl⟩ : ∃ W : World, W = wc := ⟨_, rfl⟩; have YL := mh O0.out.len; have YN := mh O0.out.ok.ne; have X0 := mh hx0; have X1 := mh hx1; have GF := mh (And.intro hgf hF.lt); have hal := (brf w4.heap.size w4).alloc mle (.cells #[I O 2, I O 9, .slice (some ⟨gl, 0, none⟩) 2 2] 47); have TA := mh (hT.below hal); have BA := mh (hB.trans (hal.mono hB.size)); have FA := mh (hF.below hal); have LA := mh (show LsAt (fun b => w.heap.size < b ∧ b ≠ gf ∧ b < w4.heap.size) (w4.alloc (.cells #[I O 2, I O 9, .slice (some ⟨gl, 0, none⟩) 2 2] 47)) (some ⟨gl, 0, none⟩) [x0, x1] from hL.change hal.size fun b k hl => ⟨hal.block b hl, k.1, k.2, hl⟩)
  have CP := mh (show Calls Tryz.prog 36 #[.slice (some ⟨w4.heap.size, 0, none⟩) 1 1] (w4.alloc (.cells #[I O 2, I O 9, .slice (some ⟨gl, 0, none⟩) 2 2] 47)) (CyG [⟨2, 9, [x0, x1]⟩] (w4.alloc (.cells #[I O 2, I O 9, .slice (some ⟨gl, 0, none⟩) 2 2] 47))) from copy2_any (some ⟨w4.heap.size, 0, none⟩) [⟨2, 9, [x0, x1]⟩] 1 _ (FsAt.one (r := ⟨2, 9, some ⟨gl, 0, none⟩, 2, 2⟩) (f := ⟨2, 9, [x0, x1]⟩) ⟨rfl, rfl, hL.change mle fun _ _ _ => ⟨rfl, trivial⟩, rfl, Nat.le_refl _, fun e => by cases e⟩ _) (by simp) fun f hf => by
   obtain rfl := List.mem_singleton.1 hf; refine ⟨by simp, fun x hx => ?_⟩; have h1 := X0.out.len; have h2 := X1.out.len; have h3 := YL.out; simp only [List.mem_cons, List.not_mem_nil, or_false] at hx
   rcases hx with rfl | rfl <;> omega)
  obtain ⟨BB, eBB⟩ : ∃ n, (w4.alloc (.cells #[I O 2, I O 9, .slice (some ⟨gl, 0, none⟩) 2 2] 47)).heap.size = n := ⟨_, rfl⟩; have HBB := mh (show w4.heap.size < BB by rw [← eBB]; simp); have f0 := hF.cell 0; have f1 := hF.cell 1; have f2 := hF.cell 2; clear O0 LN KS KK0 hx0 hx1 hT hB hF hgf hL hal
  go_wp2_with fail
  generalize (w4.alloc (.cells #[I O 2, I O 9, .slice (some ⟨gl, 0, none⟩) 2 2] 47)) = w5 at *; subst eBB; (with_reducible refine cmo CP.out ?_); rintro e w6 ⟨v, R, rfl, hS, hb6⟩; clear CP f0 f1 f2; obtain ⟨p5, c5, ev, -, -, -, -, -⟩ := hS.own.cut (n := 1) (by rw [hS.hl]; rfl); subst ev; have hR : 0 < R.length := by rw [hS.hl]; exact Nat.zero_lt_one
  obtain ⟨gh, eh, -, -, -, hc, -, -⟩ := hS.own.at hR; subst eh; obtain ⟨φ, h1, h2, -⟩ := hS.upd (FVs.chgs LVw.chgs) hR (by simp); obtain ⟨⟨rfa, rda, lp, ln, lc⟩, er⟩ : ∃ r, R[0] = r := ⟨_, rfl⟩; rw [er] at h1 hc; obtain ⟨hfa, hda, L, hSL⟩ := h1; simp only [List.getElem_cons_zero] at hfa hda hSL; subst hfa; subst hda; have c0 : w6.cell? ⟨gh, 0, none⟩ = some (I O 2) := hc 0 _ rfl; have c1 : w6.cell? ⟨gh, 1, none⟩ = some (I O 9) := hc 1 _ rfl; have c2 : w6.cell? ⟨gh, 2, none⟩ = some (.slice lp ln lc) := hc 2 _ rfl; have SG := mh (show SepR SL LVw 68 0 (fun b => w5.heap.size ≤ b ∧ b < w6.heap.size) w6 (.slice lp ln lc) L [x0, x1] from hSL.change LVw.chgs mle fun b k hl => ⟨rfl, (h2 b k).1, hl⟩); have T6 := mh (TA.out.below hb6); have B6 := mh (BA.out.trans (hb6.mono BA.out.size)); have F6 := mh (FA.out.below hb6); have L6 := mh (LA.out.below hb6); have HB65 := mh hb6.size; clear hS hR hc h2 er hSL hb6 TA BA FA LA; obtain ⟨gg, egg⟩ : ∃ g, w6.heap.size = g := ⟨_, rfl⟩; have hal := (brf w6.heap.size w6).alloc mle (.cells #[I O 2, I O 9, .slice lp ln lc] 47); have T7 := mh (T6.out.below hal); have B7 := mh (B6.out.trans (hal.mono B6.out.size)); have F7 := mh (F6.out.below hal); have L7 := mh (L6.out.below hal); have G7 := mh (egg ▸ Blk.new w6 #[I O 2, I O 9, .slice lp ln lc] 47); have S7 := mh (show SepR SL LVw 68 0 (fun b => w5.heap.size ≤ b ∧ b < gg) (w6.alloc (.cells #[I O 2, I O 9, .slice lp ln lc] 47)) (.slice lp ln lc) L [x0, x1] from SG.out.change LVw.chgs hal.size fun b k hl => ⟨hal.block b hl, by have := k.1; omega⟩); have HGG := mh (show w5.heap.size ≤ gg by rw [← egg]; exact HB65.out); have TN := mh (next_any w.heap.size l q 2 _ T7.out (by omega)); obtain ⟨ki, eki⟩ : ∃ x : Int, gives l q 2 = x := ⟨_, rfl⟩; have hki := gives_bd l q (n := 2) (by omega); rw [eki] at TN hki; obtain ⟨k, rfl⟩ := Int.eq_ofNat_of_zero_le hki.1; have hk2 : k < 2 := by have := hki.2; omega
  clear eki T6 B6 F6 L6 SG hal HB65
  go_wp2_with fail
  clear c0 c1 c2; generalize w6.alloc (.cells #[I O 2, I O 9, .slice lp ln lc] 47) = w7 at *; clear egg; (with_reducible refine cmo TN.out ?_); rintro e w8 ⟨rfl, -, hb8⟩; have B8 := mh (B7.out.trans (hb8.below mle B7.out.size)); have F8 := mh (F7.out.but hb8 (by have := GF.out; omega)); have L8 := mh (L7.out.change hb8.size fun b k hl => ⟨hb8.block b hl (by omega), k⟩); have G8 := mh (G7.out.but hb8 (by have := HGG.out; have := GF.out; have := HBB.out; omega)); have S8 := mh (S7.out.change LVw.chgs hb8.size fun b k hl => ⟨hb8.block b hl (by have := k.1; have := GF.out; have := HBB.out; omega), k⟩); have hG8 := G8.out.lt; clear T7 B7 F7 L7 G7 S7 TN hb8; obtain ⟨gw, egw⟩ : ∃ g, w8.heap.size = g := ⟨_, rfl⟩
  have N0 := mh (show NmI w (w8.alloc (.cells #[I O (wrap64 (1 + (wrap64 kind).tmod 7)), I O (k : Int)] 91)) w5.heap.size gf gg gw [x0, x1] (some ⟨gl, 0, none⟩) 9 (.slice lp ln lc) L [x0, x1] (wrap64 (1 + (wrap64 kind).tmod 7)) k from by
   have hal := (brf w8.heap.size w8).alloc mle (.cells #[I O (wrap64 (1 + (wrap64 kind).tmod 7)), I O (k : Int)] 91); have h1 := GF.out; have h2 := HBB.out; have h3 := HGG.out
   exact ⟨F8.out.below hal, G8.out.below hal, egw ▸ Blk.new w8 _ _, L8.out.change hal.size fun b k hl => ⟨hal.block b hl, by omega⟩, S8.out.change LVw.chgs hal.size fun b k hl => ⟨hal.block b hl, k⟩, B8.out.trans (hal.mono B8.out.size), by omega⟩)
  go_upto_block 0 with fail
  generalize w8.alloc (.cells #[I O (wrap64 (1 + (wrap64 kind).tmod 7)), I O (k : Int)] 91) = w9 at *; have hkd : ∀ kd : Int, kd = wrap64 (1 + (wrap64 kind).tmod 7) → kd = 1 ∨ kd = 2 ∨ kd = 3 ∨ kd = 4 ∨ kd = 5 ∨ kd = 6 ∨ kd = 7 := by
   intro kd h; have hw : 0 ≤ kind ∧ kind ≤ 255 := by simpa [Lit.wf, IntKind.min, IntKind.max, IntKind.signed, IntKind.bits] using hkw
   have e1 : wrap64 kind = kind := by unfold wrap64; omega
   rw [e1, Int.tmod_eq_emod_of_nonneg hw.1] at h; unfold wrap64 at h; omega
  obtain ⟨kd, ekd⟩ : ∃ kd : Int, wrap64 (1 + (wrap64 kind).tmod 7) = kd := ⟨_, rfl⟩; have hkd := hkd _ ekd.symm; rw [ekd] at N0 ⊢; obtain ⟨X, eX⟩ : ∃ X, [x0, x1] = X := ⟨_, rfl⟩; have hX : X.length = 2 := by rw [← eX]; rfl
  have DUE := mh (show ∀ x ∈ X, 0 < x.due.length from fun x hx => by
   have h1 := X0.out.len; have h2 := X1.out.len; have h3 := YN.out; rw [← eX] at hx; simp only [List.mem_cons, List.not_mem_nil, or_false] at hx
   rcases hx with rfl | rfl <;> omega)
  rw [eX] at N0; have HX := mh hX; clear egw ekd eX hX F8 L8 G8 S8 B8 X0 X1 YN YL GF HBB HGG hG8 hkw
  go_cut [9] (fun kv W => kv = I O (k : Int) ∧ NmE w W gf gg gw X (some ⟨gl, 0, none⟩))
  case first =>
   have hL := N0.out.gs.hl; rw [HX.out] at hL; have hkL : k < L.length := by omega
   have hL2 : L.length = 2 := by have := HX.out; omega
   have hkX : k < X.length := by have := HX.out; omega
   have hw0 := N0.out.wb.cell 0; have hw1 := N0.out.wb.cell 1; have hwf := N0.out.wb.fr 1; have g1 := N0.out.gb.cell 1; have g2 := N0.out.gb.cell 2; have gfr1 := N0.out.gb.fr 1; have gfr2 := N0.out.gb.fr 2; obtain ⟨gp, elp, eln, hlc, hcl, hfl, φ, hV⟩ := N0.out.at hkL; subst elp; have EX := mh (show NmE w w9 gf gg gw X (some ⟨gl, 0, none⟩) → True from fun _ => trivial); obtain ⟨⟨dl, ls, dp, dn, dc, se, ki, ar, bo⟩, er⟩ : ∃ r, L[k] = r := ⟨_, rfl⟩; rw [er] at hcl hV; have ER := mh er; have c0 := hcl 0 _ rfl; have c1 := hcl 1 _ rfl; have c2 := hcl 2 _ rfl; have c3 := hcl 3 _ rfl; have c6 := hcl 6 _ rfl; have r0 := hfl (k * 7); have r1 := hfl (k * 7 + 1); have r2 := hfl (k * 7 + 2); have r3 := hfl (k * 7 + 3); have r6 := hfl (k * 7 + 6); simp only [Nat.add_zero] at c0; have v0 : dl = X[k].decl := hV.1.decl; have v1 : ls = X[k].sch := hV.1.sch; have v3 : se = X[k].season := hV.1.season; have v6 : bo = X[k].border := hV.1.border; have VV := mh (And.intro v0 (And.intro v1 (And.intro v3 v6))); have HKL := mh hkL; have HKX := mh hkX; have hk0 : (0 : Int) ≤ (k : Int) := inn _; have hk1 : (k : Int) < (ln : Int) := by omega
   clear hcl hfl er hV v0 v1 v3 v6 hL eln hki
   rcases hkd with rfl | rfl | rfl | rfl | rfl | rfl | rfl
   ·have N1 := mh (N0.out.setDay 10)
    have hx1 := N1.out.wb.cell 1; have hxf := N1.out.wb.fr 1
    go_wp2_with fail
    go_meet
    exact ⟨rfl, (N1.out.setLn (-1)).e HX.out (by simp) (by have := HX.out; omega) (Re.farmCh_day (by decide))⟩
   ·go_wp2_with fail
    go_meet
    refine ⟨rfl, (N0.out.fld HKL.out HKX.out (i := 0) (by omega) (u := I O (wrap64 (dl + 1))) ⟨wrap64 (dl + 1), ls, dp, dn, dc, se, ki, ar, bo⟩ { (X[k]'HKX.out) with decl := wrap64 (dl + 1) } (by rw [ER.out]; rfl) (fun φ W h => ?_)).e HX.out (by simp) (by rw [List.length_set]; have := HX.out; omega) (Re.farmCh_set HKX.out (Re.line_decl _ _ ?_))⟩
    ·rw [ER.out] at h
     exact ⟨⟨rfl, h.1.sch, h.1.due, h.1.dn, h.1.dc, h.1.dz, h.1.dq, h.1.season, h.1.kind, h.1.area, h.1.border⟩, h.2⟩
    ·rw [← VV.out.1]
     exact (succ_ne dl).symm
   ·go_wp2_with fail
    go_meet
    refine ⟨rfl, (N0.out.fld HKL.out HKX.out (i := 1) (by omega) (u := I O (bits BinOp.xor IntKind.i64 ls 1)) ⟨dl, bits BinOp.xor IntKind.i64 ls 1, dp, dn, dc, se, ki, ar, bo⟩ { (X[k]'HKX.out) with sch := bits BinOp.xor IntKind.i64 ls 1 } (by rw [ER.out]; rfl) (fun φ W h => ?_)).e HX.out (by simp) (by rw [List.length_set]; have := HX.out; omega) (Re.farmCh_set HKX.out (Re.line_sch _ _ ?_))⟩
    ·rw [ER.out] at h
     exact ⟨⟨h.1.decl, rfl, h.1.due, h.1.dn, h.1.dc, h.1.dz, h.1.dq, h.1.season, h.1.kind, h.1.area, h.1.border⟩, h.2⟩
    ·rw [← VV.out.2.1]
     exact (xor1_ne ls).symm
   ·obtain ⟨gd, edp, edn, hqd, hcd, hfd, hsd⟩ := N0.out.gs.due0 HKL.out HKX.out (DUE.out _ (List.getElem_mem _))
    rw [ER.out] at edp edn; simp only at edp edn; subst edp; have hdn := DUE.out _ (List.getElem_mem HKX.out); have hdni : (0 : Int) < (dn : Int) := by omega
    obtain ⟨d0, ed0⟩ : ∃ x : Int, (X[k]'HKX.out).due[0]'hdn = x := ⟨_, rfl⟩; rw [ed0] at hcd; have ND := mh (N0.out.put hqd (hsd (wrap64 (d0 + 1)))); have NE0 := mh (set0_ne hdn (v := wrap64 (d0 + 1)) (by rw [ed0]; exact succ_ne d0)); clear hsd ed0
    go_wp2_with fail
    go_meet
    exact ⟨rfl, ND.out.e HX.out (by simp) (by rw [List.length_set]; have := HX.out; omega) (Re.farmCh_set HKX.out (Re.line_due _ _ NE0.out))⟩
   ·have KD := mh (show w9.drew.cell? ⟨gg, 2, none⟩ = some (.slice (some ⟨gp, 0, none⟩) ln lc) ∧ w9.drew.cell? ⟨gp, k * 7 + 3, none⟩ = some (I O se) from ⟨g2, c3⟩)
    go_wp2_with fail
    refine wp_region_K (fun w' => w'.cell? ⟨gg, 2, none⟩ = some (.slice (some ⟨gp, 0, none⟩) ln lc) ∧ w'.cell? ⟨gp, k * 7 + 3, none⟩ = some (I O se)) 14 (by kernel_rfl) KD.out (fun hHeld => ?_)
    refine wpAnyK_take 0 (i := 0) (oi := ⟨some 78, _, _, _, _, _⟩) (v := ?vk81_0) rfl (by kernel_rfl) (by kernel_rfl) (by kernel_rfl) (by kernel_rfl) (fun _ _ _ h => h) (Or.inl ⟨by kernel_rfl, ?yk81_0⟩) (by assumption) ?rk81_0
    case yk81_0 =>
     intro W0 hSw
     (try dsimp only at hSw)
     go_simp
     try with_reducible rfl
    simp only [Act.put, mnA, mnB, mnC]; refine wpAnyK_take 1 (i := 1) (oi := ⟨some 79, _, _, _, _, _⟩) (v := ?vk81_1) rfl (by kernel_rfl) (by kernel_rfl) (by kernel_rfl) (by kernel_rfl) (fun _ _ _ h => h) (Or.inl ⟨by kernel_rfl, ?yk81_1⟩) (by assumption) ?rk81_1
    case yk81_1 =>
     intro W0 hSw
     (try dsimp only at hSw)
     go_simp
     try with_reducible rfl
    simp only [Act.put, mnA, mnB, mnC]; refine wpAnyK_take 2 (i := 2) (oi := ⟨some 80, _, _, _, _, _⟩) (v := ?vk81_2) rfl (by kernel_rfl) (by kernel_rfl) (by kernel_rfl) (by kernel_rfl) (fun _ _ _ h => h) (Or.inl ⟨by kernel_rfl, ?yk81_2⟩) (by assumption) ?rk81_2
    case yk81_2 =>
     intro W0 hSw
     (try dsimp only at hSw)
     go_simp
     try with_reducible rfl
    simp only [Act.put, mnA, mnB, mnC]; refine wpAnyK_take 3 (i := 3) (oi := ⟨some 81, _, _, _, _, _⟩) (v := ?vk81_3) rfl (by kernel_rfl) (by kernel_rfl) (by kernel_rfl) (by kernel_rfl) (fun _ _ _ h => h) (Or.inl ⟨by kernel_rfl, ?yk81_3⟩) (by assumption) ?rk81_3
    case yk81_3 =>
     intro W0 hSw
     (try dsimp only at hSw)
     go_simp
     try with_reducible rfl
    simp only [Act.put, mnA, mnB, mnC]; refine wpAnyK_take 4 (i := 4) (oi := ⟨some 82, _, _, _, _, _⟩) (v := ?vk81_4) rfl (by kernel_rfl) (by kernel_rfl) (by kernel_rfl) (by kernel_rfl) (fun _ _ _ h => h) (Or.inl ⟨by kernel_rfl, ?yk81_4⟩) (by assumption) ?rk81_4
    case yk81_4 =>
     intro W0 hSw
     (try dsimp only at hSw)
     go_simp
     try with_reducible rfl
    simp only [Act.put, mnA, mnB, mnC]; refine wpAnyK_take 5 (i := 5) (oi := ⟨some 83, _, _, _, _, _⟩) (v := ?vk81_5) rfl (by kernel_rfl) (by kernel_rfl) (by kernel_rfl) (by kernel_rfl) (fun _ _ _ h => h) (Or.inl ⟨by kernel_rfl, ?yk81_5⟩) (by assumption) ?rk81_5
    case yk81_5 =>
     intro W0 hSw
     (try dsimp only at hSw)
     go_simp
     try with_reducible rfl
    simp only [Act.put, mnA, mnB, mnC]; refine wpAnyK_take 6 (i := 6) (oi := ⟨some 84, _, _, _, _, _⟩) (v := ?vk81_6) rfl (by kernel_rfl) (by kernel_rfl) (by kernel_rfl) (by kernel_rfl) (fun _ _ _ h => h) (Or.inl ⟨by kernel_rfl, ?yk81_6⟩) (by assumption) ?rk81_6
    case yk81_6 =>
     intro W0 hSw
     (try dsimp only at hSw)
     go_simp
     try with_reducible rfl
    simp only [Act.put, mnA, mnB, mnC]; refine wpAnyK_take 7 (i := 7) (oi := ⟨some 85, _, _, _, _, _⟩) (v := ?vk81_7) rfl (by kernel_rfl) (by kernel_rfl) (by kernel_rfl) (by kernel_rfl) (fun _ _ _ h => h) (Or.inl ⟨by kernel_rfl, ?yk81_7⟩) (by assumption) ?rk81_7
    case yk81_7 =>
     intro W0 hSw
     (try dsimp only at hSw)
     go_simp
     try with_reducible rfl
    simp only [Act.put, mnA, mnB, mnC]; refine wpAnyK_take 8 (i := 8) (oi := ⟨some 86, _, _, _, _, _⟩) (v := ?vk81_8) rfl (by kernel_rfl) (by kernel_rfl) (by kernel_rfl) (by kernel_rfl) (fun _ _ _ h => h) (Or.inl ⟨by kernel_rfl, ?yk81_8⟩) (by assumption) ?rk81_8
    case yk81_8 =>
     intro W0 hSw
     (try dsimp only at hSw)
     go_simp
     try with_reducible rfl
    simp only [Act.put, mnA, mnB, mnC]; refine wpAnyK_take 9 (i := 9) (oi := ⟨some 87, _, _, _, _, _⟩) (v := ?vk81_9) rfl (by kernel_rfl) (by kernel_rfl) (by kernel_rfl) (by kernel_rfl) (fun _ _ _ h => h) (Or.inl ⟨by kernel_rfl, ?yk81_9⟩) (by assumption) ?rk81_9
    case yk81_9 =>
     intro W0 hSw
     (try dsimp only at hSw)
     go_simp
     try with_reducible rfl
    simp only [Act.put, mnA, mnB, mnC]; refine wpAnyK_take 10 (i := 10) (oi := ⟨some 88, _, _, _, _, _⟩) (v := ?vk81_10) rfl (by kernel_rfl) (by kernel_rfl) (by kernel_rfl) (by kernel_rfl) (fun _ _ _ h => h) (Or.inl ⟨by kernel_rfl, ?yk81_10⟩) (by assumption) ?rk81_10
    case yk81_10 =>
     intro W0 hSw
     (try dsimp only at hSw)
     go_simp
     try with_reducible rfl
    simp only [Act.put, mnA, mnB, mnC]; refine wpAnyK_take 11 (i := 11) (oi := ⟨some 89, _, _, _, _, _⟩) (v := ?vk81_11) rfl (by kernel_rfl) (by kernel_rfl) (by kernel_rfl) (by kernel_rfl) (fun _ _ _ h => h) (Or.inl ⟨by kernel_rfl, ?yk81_11⟩) (by assumption) ?rk81_11
    case yk81_11 =>
     intro W0 hSw
     (try dsimp only at hSw)
     go_simp
     try with_reducible rfl
    simp only [Act.put, mnA, mnB, mnC]; refine wpAnyK_take 13 (i := 12) (oi := ⟨some 90, _, _, _, _, _⟩) (v := ?vk81_12) rfl (by kernel_rfl) (by kernel_rfl) (by kernel_rfl) (by kernel_rfl) (fun _ _ _ h => h) (Or.inl ⟨by kernel_rfl, ?yk81_12⟩) (by assumption) ?rk81_12
    case yk81_12 =>
     intro W0 hSw
     (try dsimp only at hSw)
     go_simp
     try with_reducible rfl
    simp only [Act.put, mnA, mnB, mnC]; refine wpAnyK_take 13 (i := 13) (oi := ⟨some 91, _, _, _, _, _⟩) (v := ?vk81_13) rfl (by kernel_rfl) (by kernel_rfl) (by kernel_rfl) (by kernel_rfl) (fun _ _ _ h => h) (Or.inl ⟨by kernel_rfl, ?yk81_13⟩) (by assumption) ?rk81_13
    case yk81_13 =>
     intro W0 hSw
     (try dsimp only at hSw)
     go_simp
     try with_reducible rfl
    simp only [Act.put, mnA, mnB, mnC]; refine wpAnyK_last (o := ⟨none, _, _, _, _, _⟩) (by kernel_rfl) rfl (fun K0 hK => ?_); go_simp; refine hK.out _ _ ?_; clear hK K0
    (try dsimp only [Act.put])
    try simp only [mnA, mnB, mnC]
    refine wpAnyH_done (by kernel_rfl) ?_ _
    obtain ⟨sv, esv⟩ : ∃ x : Int, IntKind.i64.wrap ((IntKind.i64.wrap (-IntKind.i64.wrap (se + 2))).tdiv 2) = x := ⟨_, rfl⟩; rw [esv]; have NF := mh ((N0.out.fld HKL.out HKX.out (i := 3) (by omega) (u := I O sv) ⟨dl, ls, dp, dn, dc, sv, ki, ar, bo⟩ { (X[k]'HKX.out) with season := sv } (by rw [ER.out]; rfl) (fun φ W h => by rw [ER.out] at h; exact ⟨⟨h.1.decl, h.1.sch, h.1.due, h.1.dn, h.1.dc, h.1.dz, h.1.dq, rfl, h.1.kind, h.1.area, h.1.border⟩, h.2⟩)).below (brf _ _).drew); clear esv KD c0 c1 c2 c3 c6 g1 g2 hw0 hw1 r0 r1 r2 r3 r6 gfr1 gfr2 hwf; generalize (w9.setCell ⟨gp, k * 7 + 3, none⟩ (I O sv)).drew = wa at *; have NG := mh (NF.out.below (brf _ _).drew); obtain ⟨_, e', -, -, hc', hf', -⟩ := NG.out.at (k := k) (by rw [List.length_set]; exact hkL)
    cases e'
    have c3 := hc' 3 (I O sv) (by rw [List.getElem_set_self]; rfl); have r3 := hf' (k * 7 + 3); obtain ⟨_, _, _, e', -, hcf, hvf⟩ := NG.out.fs.at hkX
    cases e'
    have c3' := hcf.c3; rw [hvf.season, ← VV.out.2.2.1, Nat.zero_add] at c3'; have g2 := NG.out.gb.cell 2; have hk3 : (k : Int) < 2 := by omega
    have KD := mh (show wa.drew.cell? ⟨gg, 2, none⟩ = some (.slice (some ⟨gp, 0, none⟩) ln lc) ∧ wa.drew.cell? ⟨gp, k * 7 + 3, none⟩ = some (I O sv) ∧ wa.drew.cell? ⟨gf, 2, none⟩ = some (.slice (some ⟨gl, 0, none⟩) 2 2) ∧ wa.drew.cell? ⟨gl, k * 7 + 3, none⟩ = some (I O se) from ⟨g2, c3, NG.out.fb.cell 2, c3'⟩); clear hc' hf' hcf hvf c3'
    by_cases hse : sv = se
    ·have hsb : (sv == se) = true := by rw [beq_iff_eq]; exact hse
     have SE := mh hse; clear hse
     go_wp2_with fail
     refine wp_region_held_drew (S := fun w' => w'.cell? ⟨gg, 2, none⟩ = some (.slice (some ⟨gp, 0, none⟩) ln lc) ∧ w'.cell? ⟨gp, k * 7 + 3, none⟩ = some (I O sv) ∧ w'.cell? ⟨gf, 2, none⟩ = some (.slice (some ⟨gl, 0, none⟩) 2 2) ∧ w'.cell? ⟨gl, k * 7 + 3, none⟩ = some (I O se)) (by kernel_rfl) KD.out (fun hHeld => ?_)
     refine tkA 0 92 ?_
     simp only [Act.put, mnA, mnB, mnC]; refine tkD 1 93 ?_; refine tkD 2 94 ?_; refine tkD 3 95 ?_; refine tkD 4 96 ?_; refine tkD 5 97 ?_; refine tkD 6 98 ?_; refine tkD 7 99 ?_; refine tkD 8 100 ?_; refine tkD 9 101 ?_; refine tkD 10 102 ?_; refine tkD 11 103 ?_; refine tkA 12 104 ?_; refine wpAnyH_done (by kernel_rfl) ?_ _
     go_wp2_with fail
     go_meet
     refine ⟨rfl, (NG.out.fld (k := k) (by rw [List.length_set]; exact HKL.out) (by rw [List.length_set]; exact HKX.out) (i := 3) (by omega) (u := I O (wrap64 (sv + 1))) ⟨dl, ls, dp, dn, dc, wrap64 (sv + 1), ki, ar, bo⟩ { (X[k]'HKX.out) with season := wrap64 (sv + 1) } (by rw [List.getElem_set_self]; rfl) (fun φ W h => by rw [List.getElem_set_self, List.getElem_set_self] at h; exact ⟨⟨h.1.decl, h.1.sch, h.1.due, h.1.dn, h.1.dc, h.1.dz, h.1.dq, rfl, h.1.kind, h.1.area, h.1.border⟩, h.2⟩)).e HX.out (by simp) (by rw [List.length_set, List.length_set]; have := HX.out; omega) (by rw [List.set_set]; exact Re.farmCh_set HKX.out (Re.line_season _ _ (by rw [← VV.out.2.2.1, ← SE.out]; exact (succ_ne sv).symm)))⟩
    ·have hsb : (sv == se) = false := by rw [beq_eq_false_iff_ne]; exact hse
     have SE := mh hse; clear hse
     go_wp2_with fail
     refine wp_region_held_drew (S := fun w' => w'.cell? ⟨gg, 2, none⟩ = some (.slice (some ⟨gp, 0, none⟩) ln lc) ∧ w'.cell? ⟨gp, k * 7 + 3, none⟩ = some (I O sv) ∧ w'.cell? ⟨gf, 2, none⟩ = some (.slice (some ⟨gl, 0, none⟩) 2 2) ∧ w'.cell? ⟨gl, k * 7 + 3, none⟩ = some (I O se)) (by kernel_rfl) KD.out (fun hHeld => ?_)
     refine tkA 0 92 ?_
     simp only [Act.put, mnA, mnB, mnC]; refine tkD 1 93 ?_; refine tkD 2 94 ?_; refine tkD 3 95 ?_; refine tkD 4 96 ?_; refine tkD 5 97 ?_; refine tkD 6 98 ?_; refine tkD 7 99 ?_; refine tkD 8 100 ?_; refine tkD 9 101 ?_; refine tkD 10 102 ?_; refine tkD 11 103 ?_; refine tkA 12 104 ?_; refine wpAnyH_done (by kernel_rfl) ?_ _
     go_wp2_with fail
     go_meet
     exact ⟨rfl, NG.out.e HX.out (by simp) (by rw [List.length_set]; have := HX.out; omega) (Re.farmCh_set HKX.out (Re.line_season _ _ (by rw [← VV.out.2.2.1]; exact fun e => SE.out e.symm)))⟩
   ·go_wp2_with fail
    go_meet
    refine ⟨rfl, (N0.out.fld HKL.out HKX.out (i := 6) (by omega) (u := I O (wrap64 (bo + 1))) ⟨dl, ls, dp, dn, dc, se, ki, ar, wrap64 (bo + 1)⟩ { (X[k]'HKX.out) with border := wrap64 (bo + 1) } (by rw [ER.out]; rfl) (fun φ W h => ?_)).e HX.out (by simp) (by rw [List.length_set]; have := HX.out; omega) (Re.farmCh_set HKX.out (Re.line_border _ _ ?_))⟩
    ·rw [ER.out] at h
     exact ⟨⟨h.1.decl, h.1.sch, h.1.due, h.1.dn, h.1.dc, h.1.dz, h.1.dq, h.1.season, h.1.kind, h.1.area, rfl⟩, h.2⟩
    ·rw [← VV.out.2.2.2]
     exact (succ_ne bo).symm
   ·have hL0 : 0 < L.length := by omega
    have HLL := mh hL2; have NQ := mh (N0.out.below (brf _ _).drew); obtain ⟨⟨dl0, ls0, dp0, dn0, dc0, se0, ki0, ar0, bo0⟩, el0⟩ : ∃ r, L[0] = r := ⟨_, rfl⟩; have EL0 := mh el0; obtain ⟨_, e', -, -, hc', -, -⟩ := NQ.out.at hL0
    cases e'
    rw [el0] at hc'; have d0 : w9.drew.cell? ⟨gp, 0, none⟩ = _ := hc' 0 _ rfl; have d1 : w9.drew.cell? ⟨gp, 1, none⟩ = _ := hc' 1 _ rfl; have d2 : w9.drew.cell? ⟨gp, 2, none⟩ = _ := hc' 2 _ rfl; have d3 : w9.drew.cell? ⟨gp, 3, none⟩ = _ := hc' 3 _ rfl; have d4 : w9.drew.cell? ⟨gp, 4, none⟩ = _ := hc' 4 _ rfl; have d5 : w9.drew.cell? ⟨gp, 5, none⟩ = _ := hc' 5 _ rfl; have d6 : w9.drew.cell? ⟨gp, 6, none⟩ = _ := hc' 6 _ rfl; have g2 := NQ.out.gb.cell 2; have hl0 : (0 : Int) < (ln : Int) := by omega
    have hl1 : 0 < ln := by omega
    clear c0 c1 c2 c3 c6 g1 hw0 hw1 r0 r1 r2 r3 r6 gfr1 gfr2 hwf hc' el0
    go_wp2_with fail
    refine wp_region_held_drew (S := fun _ => True) (by kernel_rfl) trivial (fun hHeld => ?_)
    generalize w9.drew = wq at *; refine tkD 0 131 ?_; refine tkD 2 133 ?_; refine wpAnyH_ready (rs := [1, 3]) (by kernel_rfl) (by simp) ?_; refine AllReadyH.cons (o := ⟨some 132, _, _, _, _, _⟩) rfl (fun K9 hK => ?_) ?_
    ·go_simp
     refine hK.out _ _ trivial (fun _ => ?_)
     clear hK K9
     (try dsimp only [Act.put])
     try simp only [mnA, mnB, mnC]
     refine rdA 3 134 (fun K9 hK => ?_)
     go_simp
     refine hK.out _ _ trivial (fun _ => ?_)
     clear hK K9
     (try dsimp only [Act.put])
     try simp only [mnA, mnB, mnC]
     refine tkA 4 135 ?_
     simp only [Act.put, mnA, mnB, mnC]; refine rdA 5 136 (fun K9 hK => ?_); go_simp; refine hK.out _ _ trivial (fun _ => ?_); clear hK K9
     (try dsimp only [Act.put])
     try simp only [mnA, mnB, mnC]
     refine rdA 6 137 (fun K9 hK => ?_)
     go_simp
     refine hK.out _ _ trivial (fun _ => ?_)
     clear hK K9
     (try dsimp only [Act.put])
     try simp only [mnA, mnB, mnC]
     refine rdA 7 138 (fun K9 hK => ?_)
     rw [if_pos (by kernel_rfl)]; refine OwnR.appendWp el_line (.tmp 132) (.tmp 137) rfl w.heap.size _ L ⟨dl0, ls0, dp0, dn0, dc0, se0, ki0, ar0, bo0⟩ #[I O dl0, I O ls0, .slice dp0 dn0 dc0, I O se0, I O ki0, I O ar0, I O bo0] rfl NQ.out.own rfl rfl NQ.out.low.size (by have := HLL.out; omega) (by decide) ?_; intro v5 w5 hO5 hap5; have PF := mh (NQ.out.far hap5 hO5); obtain ⟨p5, c5_, rfl, hE⟩ := NQ.out.push HX.out (by simp) (by have := HLL.out; omega) EL0.out hO5 hap5 (Nat.le_succ _); have HE := mh hE; have GGW := mh (show gw ≠ gg by have := NQ.out.o; omega); have u2 := PF.out.1.cell 2; have uf2 := PF.out.1.fr 2; have PW := mh (PF.out.2.far (i := 2) GGW.out (.slice p5 3 c5_)); have u1 := PW.out.cell 1; have uf1 := PW.out.fr 1; clear hO5 hap5 hE; refine hK.out _ _ trivial (fun _ => ?_); clear hK K9
     (try dsimp only [Act.put])
     try simp only [mnA, mnB, mnC]
     refine tkA 8 139 ?_
     simp only [Act.put, mnA, mnB, mnC]; refine wpAnyH_ready (rs := [9]) (by kernel_rfl) (by simp) ?_; refine AllReadyH.cons (o := ⟨none, _, _, _, _, _⟩) rfl (fun K9 hK => ?_) AllReadyH.nil; go_simp; refine hK.out _ _ trivial (fun _ => ?_); clear hK K9
     (try dsimp only [Act.put])
     try simp only [mnA, mnB, mnC]
     refine tkA 10 140 ?_
     simp only [Act.put, mnA, mnB, mnC]; refine wpAnyH_ready (rs := [11]) (by kernel_rfl) (by simp) ?_; refine AllReadyH.cons (o := ⟨none, _, _, _, _, _⟩) rfl (fun K9 hK => ?_) AllReadyH.nil; go_simp; refine hK.out _ _ trivial (fun _ => ?_); clear hK K9
     (try dsimp only [Act.put])
     try simp only [mnA, mnB, mnC]
     refine wpAnyH_done (by kernel_rfl) ?_ _
     go_wp2_with fail
     go_meet
     exact ⟨rfl, HE.out⟩
    refine AllReadyH.cons (o := ⟨some 134, _, _, _, _, _⟩) rfl (fun K9 hK => ?_) AllReadyH.nil
    go_simp
    refine hK.out _ _ trivial (fun _ => ?_)
    clear hK K9
    (try dsimp only [Act.put])
    try simp only [mnA, mnB, mnC]
    refine tkA 4 135 ?_
    simp only [Act.put, mnA, mnB, mnC]; refine wpAnyH_ready (rs := [1, 5]) (by kernel_rfl) (by simp) ?_; refine AllReadyH.cons (o := ⟨some 132, _, _, _, _, _⟩) rfl (fun K9 hK => ?_) ?_
    ·go_simp
     refine hK.out _ _ trivial (fun _ => ?_)
     clear hK K9
     (try dsimp only [Act.put])
     try simp only [mnA, mnB, mnC]
     refine rdA 5 136 (fun K9 hK => ?_)
     go_simp
     refine hK.out _ _ trivial (fun _ => ?_)
     clear hK K9
     (try dsimp only [Act.put])
     try simp only [mnA, mnB, mnC]
     refine rdA 6 137 (fun K9 hK => ?_)
     go_simp
     refine hK.out _ _ trivial (fun _ => ?_)
     clear hK K9
     (try dsimp only [Act.put])
     try simp only [mnA, mnB, mnC]
     refine rdA 7 138 (fun K9 hK => ?_)
     rw [if_pos (by kernel_rfl)]; refine OwnR.appendWp el_line (.tmp 132) (.tmp 137) rfl w.heap.size _ L ⟨dl0, ls0, dp0, dn0, dc0, se0, ki0, ar0, bo0⟩ #[I O dl0, I O ls0, .slice dp0 dn0 dc0, I O se0, I O ki0, I O ar0, I O bo0] rfl NQ.out.own rfl rfl NQ.out.low.size (by have := HLL.out; omega) (by decide) ?_; intro v5 w5 hO5 hap5; have PF := mh (NQ.out.far hap5 hO5); obtain ⟨p5, c5_, rfl, hE⟩ := NQ.out.push HX.out (by simp) (by have := HLL.out; omega) EL0.out hO5 hap5 (Nat.le_succ _); have HE := mh hE; have GGW := mh (show gw ≠ gg by have := NQ.out.o; omega); have u2 := PF.out.1.cell 2; have uf2 := PF.out.1.fr 2; have PW := mh (PF.out.2.far (i := 2) GGW.out (.slice p5 3 c5_)); have u1 := PW.out.cell 1; have uf1 := PW.out.fr 1; clear hO5 hap5 hE; refine hK.out _ _ trivial (fun _ => ?_); clear hK K9
     (try dsimp only [Act.put])
     try simp only [mnA, mnB, mnC]
     refine tkA 8 139 ?_
     simp only [Act.put, mnA, mnB, mnC]; refine wpAnyH_ready (rs := [9]) (by kernel_rfl) (by simp) ?_; refine AllReadyH.cons (o := ⟨none, _, _, _, _, _⟩) rfl (fun K9 hK => ?_) AllReadyH.nil; go_simp; refine hK.out _ _ trivial (fun _ => ?_); clear hK K9
     (try dsimp only [Act.put])
     try simp only [mnA, mnB, mnC]
     refine tkA 10 140 ?_
     simp only [Act.put, mnA, mnB, mnC]; refine wpAnyH_ready (rs := [11]) (by kernel_rfl) (by simp) ?_; refine AllReadyH.cons (o := ⟨none, _, _, _, _, _⟩) rfl (fun K9 hK => ?_) AllReadyH.nil; go_simp; refine hK.out _ _ trivial (fun _ => ?_); clear hK K9
     (try dsimp only [Act.put])
     try simp only [mnA, mnB, mnC]
     refine wpAnyH_done (by kernel_rfl) ?_ _
     go_wp2_with fail
     go_meet
     exact ⟨rfl, HE.out⟩
    refine AllReadyH.cons (o := ⟨some 136, _, _, _, _, _⟩) rfl (fun K9 hK => ?_) AllReadyH.nil
    go_simp
    refine hK.out _ _ trivial (fun _ => ?_)
    clear hK K9
    (try dsimp only [Act.put])
    try simp only [mnA, mnB, mnC]
    refine wpAnyH_ready (rs := [1, 6]) (by kernel_rfl) (by simp) ?_
    refine AllReadyH.cons (o := ⟨some 132, _, _, _, _, _⟩) rfl (fun K9 hK => ?_) ?_
    ·go_simp
     refine hK.out _ _ trivial (fun _ => ?_)
     clear hK K9
     (try dsimp only [Act.put])
     try simp only [mnA, mnB, mnC]
     refine rdA 6 137 (fun K9 hK => ?_)
     go_simp
     refine hK.out _ _ trivial (fun _ => ?_)
     clear hK K9
     (try dsimp only [Act.put])
     try simp only [mnA, mnB, mnC]
     refine rdA 7 138 (fun K9 hK => ?_)
     rw [if_pos (by kernel_rfl)]; refine OwnR.appendWp el_line (.tmp 132) (.tmp 137) rfl w.heap.size _ L ⟨dl0, ls0, dp0, dn0, dc0, se0, ki0, ar0, bo0⟩ #[I O dl0, I O ls0, .slice dp0 dn0 dc0, I O se0, I O ki0, I O ar0, I O bo0] rfl NQ.out.own rfl rfl NQ.out.low.size (by have := HLL.out; omega) (by decide) ?_; intro v5 w5 hO5 hap5; have PF := mh (NQ.out.far hap5 hO5); obtain ⟨p5, c5_, rfl, hE⟩ := NQ.out.push HX.out (by simp) (by have := HLL.out; omega) EL0.out hO5 hap5 (Nat.le_succ _); have HE := mh hE; have GGW := mh (show gw ≠ gg by have := NQ.out.o; omega); have u2 := PF.out.1.cell 2; have uf2 := PF.out.1.fr 2; have PW := mh (PF.out.2.far (i := 2) GGW.out (.slice p5 3 c5_)); have u1 := PW.out.cell 1; have uf1 := PW.out.fr 1; clear hO5 hap5 hE; refine hK.out _ _ trivial (fun _ => ?_); clear hK K9
     (try dsimp only [Act.put])
     try simp only [mnA, mnB, mnC]
     refine tkA 8 139 ?_
     simp only [Act.put, mnA, mnB, mnC]; refine wpAnyH_ready (rs := [9]) (by kernel_rfl) (by simp) ?_; refine AllReadyH.cons (o := ⟨none, _, _, _, _, _⟩) rfl (fun K9 hK => ?_) AllReadyH.nil; go_simp; refine hK.out _ _ trivial (fun _ => ?_); clear hK K9
     (try dsimp only [Act.put])
     try simp only [mnA, mnB, mnC]
     refine tkA 10 140 ?_
     simp only [Act.put, mnA, mnB, mnC]; refine wpAnyH_ready (rs := [11]) (by kernel_rfl) (by simp) ?_; refine AllReadyH.cons (o := ⟨none, _, _, _, _, _⟩) rfl (fun K9 hK => ?_) AllReadyH.nil; go_simp; refine hK.out _ _ trivial (fun _ => ?_); clear hK K9
     (try dsimp only [Act.put])
     try simp only [mnA, mnB, mnC]
     refine wpAnyH_done (by kernel_rfl) ?_ _
     go_wp2_with fail
     go_meet
     exact ⟨rfl, HE.out⟩
    refine AllReadyH.cons (o := ⟨some 137, _, _, _, _, _⟩) rfl (fun K9 hK => ?_) AllReadyH.nil
    go_simp
    refine hK.out _ _ trivial (fun _ => ?_)
    clear hK K9; have g2s : (wq.alloc (.cells #[I O dl0, I O ls0, .slice dp0 dn0 dc0, I O se0, I O ki0, I O ar0, I O bo0] 68)).cell? ⟨gg, 2, none⟩ = some (.slice (some ⟨gp, 0, none⟩) ln lc) := (NQ.out.below ((brf _ _).alloc mle _)).gb.cell 2
    (try dsimp only [Act.put])
    try simp only [mnA, mnB, mnC]
    refine rdA 1 132 (fun K9 hK => ?_)
    go_simp
    refine hK.out _ _ trivial (fun _ => ?_)
    clear hK K9
    (try dsimp only [Act.put])
    try simp only [mnA, mnB, mnC]
    refine rdA 7 138 (fun K9 hK => ?_)
    rw [if_pos (by kernel_rfl)]; refine OwnR.appendWp el_line (.tmp 132) (.tmp 137) rfl w.heap.size _ L ⟨dl0, ls0, dp0, dn0, dc0, se0, ki0, ar0, bo0⟩ #[I O dl0, I O ls0, .slice dp0 dn0 dc0, I O se0, I O ki0, I O ar0, I O bo0] rfl NQ.out.own rfl rfl NQ.out.low.size (by have := HLL.out; omega) (by decide) ?_; intro v5 w5 hO5 hap5; have PF := mh (NQ.out.far hap5 hO5); obtain ⟨p5, c5_, rfl, hE⟩ := NQ.out.push HX.out (by simp) (by have := HLL.out; omega) EL0.out hO5 hap5 (Nat.le_succ _); have HE := mh hE; have GGW := mh (show gw ≠ gg by have := NQ.out.o; omega); have u2 := PF.out.1.cell 2; have uf2 := PF.out.1.fr 2; have PW := mh (PF.out.2.far (i := 2) GGW.out (.slice p5 3 c5_)); have u1 := PW.out.cell 1; have uf1 := PW.out.fr 1; clear hO5 hap5 hE; refine hK.out _ _ trivial (fun _ => ?_); clear hK K9
    (try dsimp only [Act.put])
    try simp only [mnA, mnB, mnC]
    refine tkA 8 139 ?_
    simp only [Act.put, mnA, mnB, mnC]; refine wpAnyH_ready (rs := [9]) (by kernel_rfl) (by simp) ?_; refine AllReadyH.cons (o := ⟨none, _, _, _, _, _⟩) rfl (fun K9 hK => ?_) AllReadyH.nil; go_simp; refine hK.out _ _ trivial (fun _ => ?_); clear hK K9
    (try dsimp only [Act.put])
    try simp only [mnA, mnB, mnC]
    refine tkA 10 140 ?_
    simp only [Act.put, mnA, mnB, mnC]; refine wpAnyH_ready (rs := [11]) (by kernel_rfl) (by simp) ?_; refine AllReadyH.cons (o := ⟨none, _, _, _, _, _⟩) rfl (fun K9 hK => ?_) AllReadyH.nil; go_simp; refine hK.out _ _ trivial (fun _ => ?_); clear hK K9
    (try dsimp only [Act.put])
    try simp only [mnA, mnB, mnC]
    refine wpAnyH_done (by kernel_rfl) ?_ _
    go_wp2_with fail
    go_meet
    exact ⟨rfl, HE.out⟩
  case rest =>
   obtain ⟨rfl, dy, p, n, c, K, kd, ln, hfb, hgb, hwb, hfv, hgv, hK, hlow, hch⟩ := hcut; obtain ⟨wb, rfl⟩ : ∃ W : World, W = wc := ⟨_, rfl⟩; have LOW := mh hlow; have BX0 := mh (brf wb.heap.size wb).drew; have KS := mh (fun (W : World) (hb : Below wb.heap.size wb W) => show W.cell? ⟨gf, 0, none⟩ = some (I O 2) ∧ W.cell? ⟨gf, 1, none⟩ = some (I O 9) ∧ W.cell? ⟨gf, 2, none⟩ = some (.slice (some ⟨gl, 0, none⟩) 2 2) ∧ W.cell? ⟨gg, 0, none⟩ = some (I O 2) ∧ W.cell? ⟨gg, 1, none⟩ = some (I O dy) ∧ W.cell? ⟨gg, 2, none⟩ = some (.slice p n c) ∧ W.cell? ⟨gw, 0, none⟩ = some (I O kd) ∧ W.cell? ⟨gw, 1, none⟩ = some (I O ln) from ⟨(hfb.below hb).cell 0, (hfb.below hb).cell 1, (hfb.below hb).cell 2, (hgb.below hb).cell 0, (hgb.below hb).cell 1, (hgb.below hb).cell 2, (hwb.below hb).cell 0, (hwb.below hb).cell 1⟩); have CH := mh (fun (W : World) (hb : Below wb.heap.size wb W) => hch ▸ changes38_any ⟨2, 9, some ⟨gl, 0, none⟩, 2, 2⟩ ⟨2, dy, p, n, c⟩ ⟨2, 9, X⟩ ⟨2, dy, K⟩ W (hfv.below hb) (hgv.below hb) (by have := HX.out; show X.length ≤ 1000; omega) hK); have CG := mh (fun (W : World) (hb : Below wb.heap.size wb W) => Re.farmCh_self ⟨2, dy, K⟩ ▸ changes38_any ⟨2, dy, p, n, c⟩ ⟨2, dy, p, n, c⟩ ⟨2, dy, K⟩ ⟨2, dy, K⟩ W (hgv.below hb) (hgv.below hb) hK hK); simp only [fCells] at CH CG; clear hfb hgb hwb hfv hgv hK hlow hch hkd N0
   go_wp2_with fail
   refine wp_region_held_drew (S := fun w' => w'.cell? ⟨gf, 0, none⟩ = some (I O 2) ∧ w'.cell? ⟨gf, 1, none⟩ = some (I O 9) ∧ w'.cell? ⟨gf, 2, none⟩ = some (.slice (some ⟨gl, 0, none⟩) 2 2) ∧ w'.cell? ⟨gg, 0, none⟩ = some (I O 2) ∧ w'.cell? ⟨gg, 1, none⟩ = some (I O dy) ∧ w'.cell? ⟨gg, 2, none⟩ = some (.slice p n c) ∧ w'.cell? ⟨gw, 0, none⟩ = some (I O kd) ∧ w'.cell? ⟨gw, 1, none⟩ = some (I O ln)) (by kernel_rfl) (KS.out _ BX0.out) (fun hHeld => ?_)
   generalize wb.drew = wq at *; refine tkD 0 141 ?_; refine tkD 1 142 ?_; refine tkD 3 144 ?_; refine wpAnyH_ready (rs := [2, 4]) (by kernel_rfl) (by simp) ?_; refine AllReadyH.cons (o := ⟨some 143, _, _, _, _, _⟩) rfl (fun K9 hK => ?_) ?_
   ·go_simp
    (with_reducible refine cmo (CH.out _ BX0.out) ?_); rintro e wc ⟨v1, rfl, hoc, hb⟩; obtain ⟨p1, c1, rfl, -, -, -, -, hr1⟩ := hoc.cut (n := 1) rfl; have BX1 := mh (BX0.out.trans (hb.mono BX0.out.size)); have RC1 := mh hr1; clear hoc hb hr1
    go_wp2_with fail
    refine hK.out _ _ (KS.out _ BX1.out) (fun _ => ?_)
    clear hK K9
    (try dsimp only [Act.put])
    try simp only [mnA, mnB, mnC]
    refine rdA 4 145 (fun K9 hK => ?_)
    go_simp
    have hal := (brf wc.heap.size wc).alloc mle (.cells #[I O kd, I O ln] 91); have BX2 := mh (BX1.out.trans (hal.mono BX1.out.size)); obtain ⟨gz, egz⟩ : ∃ g, wc.heap.size = g := ⟨_, rfl⟩; have RS2 := mh (show Recs Re.SCh (wc.alloc (.cells #[I O kd, I O ln] 91)) (some ⟨gz, 0, none⟩) [⟨kd, ln⟩] from egz ▸ Recs.lit (S := Re.SCh) wc _ [⟨kd, ln⟩] (by show 1 ≤ _; unfold maxLen; omega)); have RC2 := mh (RC1.out.below hal); clear hal; rw [egz]; clear egz; generalize wc.alloc (.cells #[I O kd, I O ln] 91) = wcs at *; refine hK.out _ _ (KS.out _ BX2.out) (fun _ => ?_); clear hK K9
    (try dsimp only [Act.put])
    try simp only [mnA, mnB, mnC]
    have LS := mh (show Calls Tryz.prog 40 #[.slice p1 1 c1, .slice (some ⟨gz, 0, none⟩) 1 1] wcs (BoolG true wcs) from lists38_any p1 (some ⟨gz, 0, none⟩) [⟨kd, ln⟩] c1 1 wcs RC2.out RS2.out); refine rdA 5 146 (fun K9 hK => ?_); go_simp; (with_reducible refine cmo LS.out ?_); rintro e wx ⟨rfl, hb⟩; have BX7 := mh (BX2.out.trans (hb.mono BX2.out.size)); clear hb
    go_wp2_with fail
    refine hK.out _ _ (KS.out _ BX7.out) (fun _ => ?_)
    clear hK K9
    (try dsimp only [Act.put])
    try simp only [mnA, mnB, mnC]
    refine tkA 6 147 ?_
    simp only [Act.put, mnA, mnB, mnC]; refine tkD 7 148 ?_; refine tkD 8 149 ?_; refine rdA 9 150 (fun K9 hK => ?_); go_simp; (with_reducible refine cmo (CG.out _ BX7.out) ?_); rintro e wy ⟨v2, rfl, hoc, hb⟩; obtain ⟨p2, c2_, rfl, -, -, -, -, -⟩ := hoc.cut (n := 0) rfl; have BX8 := mh (BX7.out.trans (hb.mono BX7.out.size)); clear hoc hb
    go_wp2_with fail
    refine hK.out _ _ (KS.out _ BX8.out) (fun _ => ?_)
    clear hK K9
    (try dsimp only [Act.put])
    try simp only [mnA, mnB, mnC]
    refine tkA 10 151 ?_
    simp only [Act.put, mnA, mnB, mnC]; refine tkD 11 152 ?_; refine tkD 12 153 ?_; refine tkD 13 154 ?_; refine rdA 14 155 (fun K9 hK => ?_); go_simp; (with_reducible refine cmo (awake38_any _) ?_); rintro e wz ⟨rfl, hb⟩; have BX9 := mh (BX8.out.trans (hb.mono BX8.out.size)); clear hb
    go_wp2_with fail
    refine hK.out _ _ (KS.out _ BX9.out) (fun _ => ?_)
    clear hK K9
    (try dsimp only [Act.put])
    try simp only [mnA, mnB, mnC]
    refine tkA 15 156 ?_
    simp only [Act.put, mnA, mnB, mnC]; refine tkD 16 4 ?_; refine wpAnyH_done (by kernel_rfl) ?_ _
    go_wp2_with fail
    go_ret
    exact ⟨rfl, LOW.out.trans (BX9.out.mono LOW.out.size)⟩
   refine AllReadyH.cons (o := ⟨some 145, _, _, _, _, _⟩) rfl (fun K9 hK => ?_) AllReadyH.nil
   go_simp
   have hal := (brf wq.heap.size wq).alloc mle (.cells #[I O kd, I O ln] 91); have BX1 := mh (BX0.out.trans (hal.mono BX0.out.size)); obtain ⟨gz, egz⟩ : ∃ g, wq.heap.size = g := ⟨_, rfl⟩; have RS1 := mh (show Recs Re.SCh (wq.alloc (.cells #[I O kd, I O ln] 91)) (some ⟨gz, 0, none⟩) [⟨kd, ln⟩] from egz ▸ Recs.lit (S := Re.SCh) wq _ [⟨kd, ln⟩] (by show 1 ≤ _; unfold maxLen; omega)); clear hal; rw [egz]; clear egz; generalize wq.alloc (.cells #[I O kd, I O ln] 91) = ws at *; refine hK.out _ _ (KS.out _ BX1.out) (fun _ => ?_); clear hK K9
   (try dsimp only [Act.put])
   try simp only [mnA, mnB, mnC]
   refine rdA 2 143 (fun K9 hK => ?_)
   go_simp
   (with_reducible refine cmo (CH.out _ BX1.out) ?_); rintro e wsc ⟨v1, rfl, hoc, hb⟩; obtain ⟨p1, c1, rfl, -, -, -, -, hr1⟩ := hoc.cut (n := 1) rfl; have BX2 := mh (BX1.out.trans (hb.mono BX1.out.size)); have RC2 := mh hr1; have RS2 := mh (RS1.out.below hb); clear hoc hb hr1
   go_wp2_with fail
   refine hK.out _ _ (KS.out _ BX2.out) (fun _ => ?_)
   clear hK K9
   (try dsimp only [Act.put])
   try simp only [mnA, mnB, mnC]
   have LS := mh (show Calls Tryz.prog 40 #[.slice p1 1 c1, .slice (some ⟨gz, 0, none⟩) 1 1] wsc (BoolG true wsc) from lists38_any p1 (some ⟨gz, 0, none⟩) [⟨kd, ln⟩] c1 1 wsc RC2.out RS2.out); refine rdA 5 146 (fun K9 hK => ?_); go_simp; (with_reducible refine cmo LS.out ?_); rintro e wx ⟨rfl, hb⟩; have BX7 := mh (BX2.out.trans (hb.mono BX2.out.size)); clear hb
   go_wp2_with fail
   refine hK.out _ _ (KS.out _ BX7.out) (fun _ => ?_)
   clear hK K9
   (try dsimp only [Act.put])
   try simp only [mnA, mnB, mnC]
   refine tkA 6 147 ?_
   simp only [Act.put, mnA, mnB, mnC]; refine tkD 7 148 ?_; refine tkD 8 149 ?_; refine rdA 9 150 (fun K9 hK => ?_); go_simp; (with_reducible refine cmo (CG.out _ BX7.out) ?_); rintro e wy ⟨v2, rfl, hoc, hb⟩; obtain ⟨p2, c2_, rfl, -, -, -, -, -⟩ := hoc.cut (n := 0) rfl; have BX8 := mh (BX7.out.trans (hb.mono BX7.out.size)); clear hoc hb
   go_wp2_with fail
   refine hK.out _ _ (KS.out _ BX8.out) (fun _ => ?_)
   clear hK K9
   (try dsimp only [Act.put])
   try simp only [mnA, mnB, mnC]
   refine tkA 10 151 ?_
   simp only [Act.put, mnA, mnB, mnC]; refine tkD 11 152 ?_; refine tkD 12 153 ?_; refine tkD 13 154 ?_; refine rdA 14 155 (fun K9 hK => ?_); go_simp; (with_reducible refine cmo (awake38_any _) ?_); rintro e wz ⟨rfl, hb⟩; have BX9 := mh (BX8.out.trans (hb.mono BX8.out.size)); clear hb
   go_wp2_with fail
   refine hK.out _ _ (KS.out _ BX9.out) (fun _ => ?_)
   clear hK K9
   (try dsimp only [Act.put])
   try simp only [mnA, mnB, mnC]
   refine tkA 15 156 ?_
   simp only [Act.put, mnA, mnB, mnC]; refine tkD 16 4 ?_; refine wpAnyH_done (by kernel_rfl) ?_ _
   go_wp2_with fail
   go_ret
   exact ⟨rfl, LOW.out.trans (BX9.out.mono LOW.out.size)⟩
end Go.Proofs.YtmlfcpglhipjgaaGreat
