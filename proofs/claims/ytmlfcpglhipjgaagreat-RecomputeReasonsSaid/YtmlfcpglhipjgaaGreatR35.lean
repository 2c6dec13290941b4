/-
  PACKED (pack8.py): what is needed of the texts Cx.
-/
import Derived.Test.YtmlfcpglhipjgaaGreatR34
set_option maxRecDepth 100000
set_option maxHeartbeats 8000000
open Go.Value renaming int → I
open Go.IntKind renaming i64 → O
namespace Go.Proofs.YtmlfcpglhipjgaaGreat
open Go.RowKit Sc As
def CoG (t : Nat) (l : List Int) (Y : YLaw) (F : List FarmF) (w : World) (e : Ending) (w' : World) : Prop :=
 ∃ (p : Option Addr) (G : List FarmF) (cap q : Nat), e = .returned (.slice p G.length cap) ∧ G.length ≤ cap ∧ FsAt (NewQ w.heap.size) w' p G ∧ CoOk Y F G ∧ TpB w w' t l q
theorem elem_lines : Tryz.prog.elem 45 = 68 := by kernel_rfl
theorem cells_line : Tryz.prog.cellsOf 68 = 7 := by kernel_rfl
theorem run_lines_to (b off n c k : Nat) (hk : k ≤ c) : ∀ W, (Instr.slice 45 (.slice (some ⟨b, off, none⟩) n c) none (some (I O (k : Int))) none).run Tryz.prog W = .ok (.slice (some ⟨b, off, none⟩) k c) W := fun W => by
 have hs : (sizeOf (Tryz.prog.elem 45)).run Tryz.prog W = .ok 7 W := by
  obtain ⟨i0, _, h1, _⟩ := el_line.ex; rw [elem_lines, run_sizeOf W h1, cells_line]
 rw [run_slice_h (P := Tryz.prog) W 45 (some ⟨b, off, none⟩) n c (by rw [elem_lines]; exact el_line.ts) .i64 (k : Int) (by omega) (by omega), hs]
 show Result.ok (Value.slice (if c = 0 then some ⟨b, off, none⟩ else (some (⟨b, off, none⟩ : Addr)).map (·.add (0 * 7))) (k - 0) (c - 0)) W = _
 rw [Option.map_some, Go.WideShapes.add_plain, Nat.zero_mul, Nat.add_zero, ite_self, Nat.sub_zero, Nat.sub_zero]
theorem CoI.row {w W : World} {t q gy go m c1 : Nat} {l : List Int} {ya : Array Value} {R : List RF} {G : List FarmF} (h : CoI w W t l q gy ya (.slice (some ⟨go, 0, none⟩) m c1) R G) {k : Nat} (hk : k < R.length) :
  W.cell? ⟨go, k * 3 + 1, none⟩ = some (I O R[k].day) ∧ W.cell? ⟨go, k * 3 + 2, none⟩ = some (.slice R[k].lp R[k].ln R[k].lc) ∧ (∀ i, W.frozen? ⟨go, i, none⟩ = false) ∧ gy < go := by
 obtain ⟨g, e, -, hB, -, hc, hf, -⟩ := h.fs.own.at hk
 cases e
 exact ⟨hc 1 _ rfl, hc 2 _ rfl, hf, hB⟩
theorem CoI.lines {w W : World} {t q gy : Nat} {l : List Int} {ya : Array Value} {v : Value} {R : List RF} {G : List FarmF} (h : CoI w W t l q gy ya v R G) {k : Nat} (hk : k < R.length) (hk' : k < G.length) :
  R[k].ln = G[k].lines.length ∧ R[k].ln ≤ R[k].lc ∧ ∀ j, j < R[k].ln → ∃ gl, R[k].lp = some ⟨gl, 0, none⟩ ∧ gy < gl ∧ (∀ i, W.frozen? ⟨gl, i, none⟩ = false) ∧ ∃ r : RL, ∀ i u, (lCells r)[i]? = some u → W.cell? ⟨gl, j * 7 + i, none⟩ = some u := by
 obtain ⟨φ, h1, h2, -⟩ := h.fs.upd (FVs.chgs LV.chgs) hk hk'; obtain ⟨L, hL⟩ := h1.lines; obtain ⟨_, h3, h4, _⟩ := hL.lines; refine ⟨h3, h4, fun j hj => ?_⟩; obtain ⟨g, e, -, -, -, hc, hf, -⟩ := hL.own.at (k := j) (by rw [hL.hl, ← h3]; exact hj); exact ⟨g, e, (h2 g (hL.oq g (by rw [e]; rfl))).1, hf, _, hc⟩
theorem corr2_any {Q : Nat → Prop} (d t : Nat) (l : List Int) (a0 : Nat) (r : RY) (Y : YLaw) (p : Option Addr) (F : List FarmF) (c : Nat) (w : World) (h : TapeAt w t l a0) (hQ : ∀ b, Q b → b ≠ t) (hY : YV Q w d r Y) (hl : YOk Y) (hF : FsAt Q w p F) (hm : ∀ f ∈ F, FmOk Y f) (lF : F.length ≤ 4) :
  Calls Tryz.prog 39 #[.pointer (some ⟨t, 0, none⟩), .agg (yCells r).toArray, .slice p F.length c] w (CoG t l Y F w) := by
 have LN := mh (fun (W : World) (q : Nat) (hp : TpB w W t l q) => line2_any d t l q r Y W hp.tape hQ (hY.sch.change hp.but.size fun b k hl => ⟨hp.but.block b hl (hQ b k), k⟩) hY.sn hl); have hsl := hl.len; have CP := mh (fun (W : World) (hb : Below w.heap.size w W) => copy2_any p F c W (hF.below hb) (by omega) fun f hf => ⟨by have := (hm f hf).len; omega, fun x hx => by have := ((hm f hf).ok.line x hx).len; omega⟩); have FM := mh hm; have HT := mh h; have TN := mh (fun (W : World) (q : Nat) (n : Int) (h : TapeAt W t l q) (hn : n ≤ 9223372036854775807) => next_any t l q n W h hn); have TO := mh (fun (W : World) (q : Nat) (h : TapeAt W t l q) => one_any t l q 5 W h (by omega) (by omega)); obtain ⟨sp, sn, sc, tp, tn, tc, ldue, llast, lmille, gp, gn, gc, cp, ev, un, wd⟩ := r; simp only [yCells] at LN ⊢; obtain ⟨gy, eg⟩ : ∃ g, w.heap.size = g := ⟨_, rfl⟩; have hba := (brf w.heap.size w).alloc mle (.cells #[.slice sp sn sc, .slice tp tn tc, I O ldue, I O llast, I O lmille, .slice gp gn gc, I O cp, I O ev, I O un, I O wd] 29); have s0 : (w.alloc (.cells #[.slice sp sn sc, .slice tp tn tc, I O ldue, I O llast, I O lmille, .slice gp gn gc, I O cp, I O ev, I O un, I O wd] 29)).heap.size = gy + 1 := by rw [World.size_alloc, eg]
 have HBA := mh hba; have S0 := mh s0; have YB := mh (eg ▸ Blk.new w #[.slice sp sn sc, .slice tp tn tc, I O ldue, I O llast, I O lmille, .slice gp gn gc, I O cp, I O ev, I O un, I O wd] 29); have EG := mh eg; clear h hQ hY hl hF hm hba s0
 go_enter Tryz.func39, Tryz.ntmps39
 go_wp2_with fail
 clear eg; generalize w.alloc (.cells #[.slice sp sn sc, .slice tp tn tc, I O ldue, I O llast, I O lmille, .slice gp gn gc, I O cp, I O ev, I O un, I O wd] 29) = w0 at *; (with_reducible refine cmo (CP.out w0 HBA.out) ?_); rintro e w1 ⟨v, R1, rfl, hS, hb1⟩; rw [S0.out] at hS; obtain ⟨p1, c1, rfl, -, -, hc1, -, -⟩ := hS.own.cut (n := F.length) hS.hl; have HC1 := mh hc1; have C1 := mh (show CoI w w1 t l a0 gy #[.slice sp sn sc, .slice tp tn tc, I O ldue, I O llast, I O lmille, .slice gp gn gc, I O cp, I O ev, I O un, I O wd] (.slice p1 F.length c1) R1 F from ⟨⟨(HT.out.below HBA.out).below hb1, (But.of_below HBA.out).nxt hb1, HT.out.lt⟩, YB.out.below hb1, hS.map fun _ _ _ _ h => h.map fun _ _ _ _ h => h.1, by have := EG.out; omega⟩); obtain ⟨n0, en0⟩ : ∃ x, gives l a0 3 = x := ⟨_, rfl⟩; have hn0 := gives_bd l a0 (n := 3) (by omega); rw [en0] at hn0; have T0 := mh (en0 ▸ TN.out w1 a0 3 C1.out.tp.tape (by omega)); obtain ⟨N0, rfl⟩ := Int.eq_ofNat_of_zero_le hn0.1; have hN0 : N0 < 3 := by omega
 obtain ⟨m, em⟩ : ∃ m, F.length = m := ⟨_, rfl⟩; have EM := mh em; rw [em] at lF HC1 C1 ⊢; have hm0 : (0 : Int) ≤ (m : Int) := inn _; clear en0 hn0 hS hb1 hc1 em CP
 go_wp2_with fail
 (with_reducible refine cmo T0.out ?_); rintro e w2 ⟨rfl, ht, hb⟩; have C2 := mh (C1.out.next ht hb); clear ht hb; clear T0 C1
 go_wp2_with fail
 go_loopw [8] (fun nv W => ∃ (N q : Nat) (R : List RF) (G : List FarmF), N ≤ 3 ∧ nv = I O N ∧ CoI w W t l q gy #[.slice sp sn sc, .slice tp tn tc, I O ldue, I O llast, I O lmille, .slice gp gn gc, I O cp, I O ev, I O un, I O wd] (.slice p1 m c1) R G ∧ CoOk Y F G) (fun n _ => (intOf n).toNat)
 case atStart => exact ⟨N0, _, R1, F, by omega, rfl, C2.out, rfl, FM.out⟩
 case round =>
  clear C2; obtain ⟨wo, rfl⟩ : ∃ wo : World, wo = wr := ⟨_, rfl⟩; obtain ⟨N, q, R, G, hN3, rfl, hC, hK⟩ := hrel; have HC := mh hC; have HK := mh hK; have hNi : (0 : Int) ≤ (N : Int) := inn _; have hGm : G.length = m := by rw [hK.len, EM.out]
  have HGM := mh hGm; have HRM := mh (show R.length = m by rw [hC.fs.hl, hGm]); clear hC hK
  by_cases hz : N = 0 ∨ m = 0
  ·have FIN := mh (show CoG t l Y F w (.returned (.slice p1 m c1)) wo from by
    obtain ⟨h1, h2, h3, h4⟩ := HC.out.fs.farms
    exact ⟨p1, G, c1, q, by rw [HGM.out], by rw [HGM.out]; exact h3, h1.change mle fun b k _ => ⟨rfl, by have := HC.out.ord; unfold NewQ at k ⊢; omega⟩, HK.out, HC.out.tp⟩)
   by_cases hz0 : N = 0
   ·subst hz0
    rw [show ((0 : Nat) : Int) = 0 from rfl]; clear hz
    go_wp2_with fail
    go_ret
    exact FIN.out
   ·obtain rfl : m = 0 := by omega
    obtain ⟨M, rfl⟩ : ∃ M, N = M + 1 := ⟨N - 1, by omega⟩; have hMi : (0 : Int) < ((M + 1 : Nat) : Int) := by omega
    have hdM : decide ((0 : Int) < ((M + 1 : Nat) : Int)) = true := dqt hMi; clear hz hz0
    go_wp2_with fail
    go_ret
    exact FIN.out
  ·obtain ⟨M, rfl⟩ : ∃ M, N = M + 1 := ⟨N - 1, by omega⟩
   have hMi : (0 : Int) < ((M + 1 : Nat) : Int) := by omega
   have hmp : (0 : Int) < (m : Int) := by omega
   obtain ⟨k0, ek0⟩ : ∃ x : Int, gives l q (m : Int) = x := ⟨_, rfl⟩; have hk0 := gives_bd l q (n := (m : Int)) (by omega); rw [ek0] at hk0; obtain ⟨q1, eq1⟩ : ∃ x, taken l q = x := ⟨_, rfl⟩; have T1 := mh (eq1 ▸ ek0 ▸ TN.out wo q (m : Int) HC.out.tp.tape (by omega)); obtain ⟨k, rfl⟩ := Int.eq_ofNat_of_zero_le hk0.1; have hk1 : (0 : Int) ≤ (k : Int) := hk0.1; have hk2 : (k : Int) < (m : Int) := hk0.2; have hkm : k < m := by omega
   have hkR : k < R.length := by rw [HRM.out]; exact hkm
   have hkG : k < G.length := by rw [HGM.out]; exact hkm
   have HKR := mh hkR; have HKG := mh hkG; obtain ⟨go, ep, -, hgo, -, -, -, -⟩ := HC.out.fs.own.at hkR; obtain ⟨b1, eb1⟩ : ∃ b, (gives l q1 5 == 5 - 1) = b := ⟨_, rfl⟩; have EP := mh ep; subst ep; clear hz ek0 eq1 hk0 hkR hkG hgo
   go_wp2_with fail
   (with_reducible refine cmo T1.out ?_); rintro e w3 ⟨rfl, ht, hb⟩; have C3 := mh (HC.out.next ht hb); clear ht hb; clear T1; have T2 := mh (eb1 ▸ TO.out w3 q1 C3.out.tp.tape); obtain ⟨q2, eq2⟩ : ∃ x, taken l q1 = x := ⟨_, rfl⟩; rw [eq2] at T2; clear eb1 eq2
   go_wp2_with fail
   (with_reducible refine cmo T2.out ?_); rintro e w4 ⟨rfl, ht, hb⟩; have C4 := mh (C3.out.next ht hb); clear ht hb; clear T2 C3
   cases b1
   ·obtain ⟨b2, eb2⟩ : ∃ b, (gives l q2 5 == 5 - 1) = b := ⟨_, rfl⟩
    have T3 := mh (eb2 ▸ TO.out w4 q2 C4.out.tp.tape); obtain ⟨q3, eq3⟩ : ∃ x, taken l q2 = x := ⟨_, rfl⟩; rw [eq3] at T3; obtain ⟨⟨rfa, rda, lp, ln, lc⟩, er⟩ : ∃ r, R[k]'HKR.out = r := ⟨_, rfl⟩; have ER := mh er; have LNS := mh (C4.out.lines HKR.out HKG.out); have hln := (LNS.out).2.1; rw [er] at hln; simp only at hln; clear eb2 eq3 er
    by_cases hz : ln = 0
    ·subst hz
     cases b2
     ·go_wp2_with (go_at_call 56; (with_reducible refine cmo T3.out ?_); rintro e w5 ⟨rfl, ht, hb⟩; have C5 := mh (C4.out.next ht hb); have x2 := (C5.out.row HKR.out).2.1; rw [ER.out] at x2; have f2 := (C5.out.row HKR.out).2.2.1 (k * 3 + 2); clear ht hb)
      go_roundw
      case rel => exact ⟨M, _, R, G, by omega, by go_num, C5.out, HK.out⟩
      case measure => simp [intOf]
     ·go_wp2_with (go_at_call 56; (with_reducible refine cmo T3.out ?_); rintro e w5 ⟨rfl, ht, hb⟩; have C5 := mh (C4.out.next ht hb); have x2 := (C5.out.row HKR.out).2.1; rw [ER.out] at x2; have f2 := (C5.out.row HKR.out).2.2.1 (k * 3 + 2); clear ht hb)
      go_roundw
      case rel => exact ⟨M, _, R, G, by omega, by go_num, C5.out, HK.out⟩
      case measure => simp [intOf]
    ·obtain ⟨j, rfl⟩ : ∃ j, ln = j + 1 := ⟨ln - 1, by omega⟩
     obtain ⟨bl, ep, hgb, -, -⟩ := (LNS.out).2.2 0 (by rw [ER.out]; exact Nat.succ_pos j); rw [ER.out] at ep; simp only at ep; subst ep; have HGB := mh hgb; have hj0 : (0 : Int) < ((j + 1 : Nat) : Int) := by omega
     have hj1 : (0 : Int) < (j : Int) + 1 := by omega
     clear hz hgb
     cases b2
     ·go_wp2_with (go_at_call 56; (with_reducible refine cmo T3.out ?_); rintro e w5 ⟨rfl, ht, hb⟩; have C5 := mh (C4.out.next ht hb); have x2 := (C5.out.row HKR.out).2.1; rw [ER.out] at x2; have f2 := (C5.out.row HKR.out).2.2.1 (k * 3 + 2); clear ht hb)
      obtain ⟨j2i, ej2⟩ : ∃ x : Int, gives l q3 ((j : Int) + 1) = x := ⟨_, rfl⟩; have hj2 := gives_bd l q3 (n := (j : Int) + 1) (by omega); rw [ej2] at hj2; have T4 := mh (ej2 ▸ TN.out w5.drew q3 ((j : Int) + 1) (C5.out.tp.tape.below (brf _ _).drew) (by have := LNS.out.1; have := (HK.out.fm _ (List.getElem_mem HKG.out)).len; rw [ER.out] at *; simp only at *; omega)); obtain ⟨j2, rfl⟩ := Int.eq_ofNat_of_zero_le hj2.1; have hj20 : (0 : Int) ≤ (j2 : Int) := hj2.1; have hj21 : (j2 : Int) < (j : Int) + 1 := by have := hj2.2; omega
      have HJ2 := mh (show j2 < j + 1 by omega); have KS := mh (fun (W : World) {q : Nat} (h : CoI w W t l q gy #[.slice sp sn sc, .slice tp tn tc, I O ldue, I O llast, I O lmille, .slice gp gn gc, I O cp, I O ev, I O un, I O wd] (.slice (some ⟨go, 0, none⟩) m c1) R G) => show W.cell? ⟨go, k * 3 + 2, none⟩ = some (.slice (some ⟨bl, 0, none⟩) (j + 1) lc) ∧ W.cell? ⟨gy, 0, none⟩ = some (.slice sp sn sc) ∧ W.cell? ⟨gy, 1, none⟩ = some (.slice tp tn tc) ∧ W.cell? ⟨gy, 2, none⟩ = some (I O ldue) ∧ W.cell? ⟨gy, 3, none⟩ = some (I O llast) ∧ W.cell? ⟨gy, 4, none⟩ = some (I O lmille) ∧ W.cell? ⟨gy, 5, none⟩ = some (.slice gp gn gc) ∧ W.cell? ⟨gy, 6, none⟩ = some (I O cp) ∧ W.cell? ⟨gy, 7, none⟩ = some (I O ev) ∧ W.cell? ⟨gy, 8, none⟩ = some (I O un) ∧ W.cell? ⟨gy, 9, none⟩ = some (I O wd) from ⟨by have := (h.row HKR.out).2.1; rwa [ER.out] at this, h.yb.cell 0, h.yb.cell 1, h.yb.cell 2, h.yb.cell 3, h.yb.cell 4, h.yb.cell 5, h.yb.cell 6, h.yb.cell 7, h.yb.cell 8, h.yb.cell 9⟩); have KD := mh (KS.out _ (C5.out.next (C5.out.tp.tape.below (brf _ _).drew) (But.of_below (brf _ _).drew))); clear hj2 ej2 x2 f2; refine wp_region_K (fun w' => w'.cell? ⟨go, k * 3 + 2, none⟩ = some (.slice (some ⟨bl, 0, none⟩) (j + 1) lc) ∧ w'.cell? ⟨gy, 0, none⟩ = some (.slice sp sn sc) ∧ w'.cell? ⟨gy, 1, none⟩ = some (.slice tp tn tc) ∧ w'.cell? ⟨gy, 2, none⟩ = some (I O ldue) ∧ w'.cell? ⟨gy, 3, none⟩ = some (I O llast) ∧ w'.cell? ⟨gy, 4, none⟩ = some (I O lmille) ∧ w'.cell? ⟨gy, 5, none⟩ = some (.slice gp gn gc) ∧ w'.cell? ⟨gy, 6, none⟩ = some (I O cp) ∧ w'.cell? ⟨gy, 7, none⟩ = some (I O ev) ∧ w'.cell? ⟨gy, 8, none⟩ = some (I O un) ∧ w'.cell? ⟨gy, 9, none⟩ = some (I O wd)) 15 (by kernel_rfl) KD.out (fun hHeld => ?_); refine wpAnyK_take 0 (i := 0) (oi := ⟨some 69, _, _, _, _, _⟩) (v := ?vk72_0) rfl (by kernel_rfl) (by kernel_rfl) (by kernel_rfl) (by kernel_rfl) (fun _ _ _ h => h) (Or.inl ⟨by kernel_rfl, ?yk72_0⟩) (by assumption) ?rk72_0
      case yk72_0 =>
       intro W0 hSw
       (try dsimp only at hSw)
       go_simp
       try with_reducible rfl
      simp only [Act.put, mnA, mnB, mnC]; refine wpAnyK_take 1 (i := 1) (oi := ⟨some 70, _, _, _, _, _⟩) (v := ?vk72_1) rfl (by kernel_rfl) (by kernel_rfl) (by kernel_rfl) (by kernel_rfl) (fun _ _ _ h => h) (Or.inl ⟨by kernel_rfl, ?yk72_1⟩) (by assumption) ?rk72_1
      case yk72_1 =>
       intro W0 hSw
       (try dsimp only at hSw)
       go_simp
       try with_reducible rfl
      simp only [Act.put, mnA, mnB, mnC]; refine wpAnyK_take 2 (i := 2) (oi := ⟨some 71, _, _, _, _, _⟩) (v := ?vk72_2) rfl (by kernel_rfl) (by kernel_rfl) (by kernel_rfl) (by kernel_rfl) (fun _ _ _ h => h) (Or.inl ⟨by kernel_rfl, ?yk72_2⟩) (by assumption) ?rk72_2
      case yk72_2 =>
       intro W0 hSw
       (try dsimp only at hSw)
       go_simp
       try with_reducible rfl
      simp only [Act.put, mnA, mnB, mnC]; refine wpAnyK_take 3 (i := 3) (oi := ⟨some 72, _, _, _, _, _⟩) (v := ?vk72_3) rfl (by kernel_rfl) (by kernel_rfl) (by kernel_rfl) (by kernel_rfl) (fun _ _ _ h => h) (Or.inl ⟨by kernel_rfl, ?yk72_3⟩) (by assumption) ?rk72_3
      case yk72_3 =>
       intro W0 hSw
       (try dsimp only at hSw)
       go_simp
       try with_reducible rfl
      simp only [Act.put, mnA, mnB, mnC]; refine wpAnyK_take 4 (i := 4) (oi := ⟨some 73, _, _, _, _, _⟩) (v := ?vk72_4) rfl (by kernel_rfl) (by kernel_rfl) (by kernel_rfl) (by kernel_rfl) (fun _ _ _ h => h) (Or.inl ⟨by kernel_rfl, ?yk72_4⟩) (by assumption) ?rk72_4
      case yk72_4 =>
       intro W0 hSw
       (try dsimp only at hSw)
       go_simp
       try with_reducible rfl
      simp only [Act.put, mnA, mnB, mnC]; refine wpAnyK_take 5 (i := 5) (oi := ⟨some 74, _, _, _, _, _⟩) (v := ?vk72_5) rfl (by kernel_rfl) (by kernel_rfl) (by kernel_rfl) (by kernel_rfl) (fun _ _ _ h => h) (Or.inl ⟨by kernel_rfl, ?yk72_5⟩) (by assumption) ?rk72_5
      case yk72_5 =>
       intro W0 hSw
       (try dsimp only at hSw)
       go_simp
       try with_reducible rfl
      simp only [Act.put, mnA, mnB, mnC]; refine wpAnyK_take 6 (i := 6) (oi := ⟨some 75, _, _, _, _, _⟩) (v := ?vk72_6) rfl (by kernel_rfl) (by kernel_rfl) (by kernel_rfl) (by kernel_rfl) (fun _ _ _ h => h) (Or.inl ⟨by kernel_rfl, ?yk72_6⟩) (by assumption) ?rk72_6
      case yk72_6 =>
       intro W0 hSw
       (try dsimp only at hSw)
       go_simp
       try with_reducible rfl
      simp only [Act.put, mnA, mnB, mnC]; refine wpAnyK_take 7 (i := 7) (oi := ⟨some 76, _, _, _, _, _⟩) (v := ?vk72_7) rfl (by kernel_rfl) (by kernel_rfl) (by kernel_rfl) (by kernel_rfl) (fun _ _ _ h => h) (Or.inl ⟨by kernel_rfl, ?yk72_7⟩) (by assumption) ?rk72_7
      case yk72_7 =>
       intro W0 hSw
       (try dsimp only at hSw)
       go_simp
       try with_reducible rfl
      simp only [Act.put, mnA, mnB, mnC]; refine wpAnyK_take 8 (i := 8) (oi := ⟨some 77, _, _, _, _, _⟩) (v := ?vk72_8) rfl (by kernel_rfl) (by kernel_rfl) (by kernel_rfl) (by kernel_rfl) (fun _ _ _ h => h) (Or.inl ⟨by kernel_rfl, ?yk72_8⟩) (by assumption) ?rk72_8
      case yk72_8 =>
       intro W0 hSw
       (try dsimp only at hSw)
       go_simp
       try with_reducible rfl
      simp only [Act.put, mnA, mnB, mnC]; refine wpAnyK_take 9 (i := 9) (oi := ⟨some 78, _, _, _, _, _⟩) (v := ?vk72_9) rfl (by kernel_rfl) (by kernel_rfl) (by kernel_rfl) (by kernel_rfl) (fun _ _ _ h => h) (Or.inl ⟨by kernel_rfl, ?yk72_9⟩) (by assumption) ?rk72_9
      case yk72_9 =>
       intro W0 hSw
       (try dsimp only at hSw)
       go_simp
       try with_reducible rfl
      simp only [Act.put, mnA, mnB, mnC]; refine wpAnyK_take 11 (i := 11) (oi := ⟨some 80, _, _, _, _, _⟩) (v := ?vk72_11) rfl (by kernel_rfl) (by kernel_rfl) (by kernel_rfl) (by kernel_rfl) (fun _ _ _ h => h) (Or.inl ⟨by kernel_rfl, ?yk72_11⟩) (by assumption) ?rk72_11
      case yk72_11 =>
       intro W0 hSw
       (try dsimp only at hSw)
       go_simp
       try with_reducible rfl
      simp only [Act.put, mnA, mnB, mnC]; refine wpAnyK_take 12 (i := 12) (oi := ⟨some 81, _, _, _, _, _⟩) (v := ?vk72_12) rfl (by kernel_rfl) (by kernel_rfl) (by kernel_rfl) (by kernel_rfl) (fun _ _ _ h => h) (Or.inl ⟨by kernel_rfl, ?yk72_12⟩) (by assumption) ?rk72_12
      case yk72_12 =>
       intro W0 hSw
       (try dsimp only at hSw)
       go_simp
       try with_reducible rfl
      simp only [Act.put, mnA, mnB, mnC]; refine wpAnyK_one (i := 10) (o := ⟨some 79, _, _, _, _, _⟩) (by kernel_rfl) (by kernel_rfl) rfl (fun K0 hK => ?_); go_simp; (with_reducible refine cmo T4.out ?_); rintro e w6 ⟨rfl, ht, hb⟩; have C6 := mh (C5.out.next ht ((But.of_below (brf w5.heap.size w5).drew).trans hb)); have K6 := mh (KS.out _ C6.out); clear ht hb T4
      go_wp2_with fail
      refine hK.out _ _ K6.out ?_
      clear hK K0
      (try dsimp only [Act.put])
      try simp only [mnA, mnB, mnC]
      refine wpAnyK_one (i := 13) (o := ⟨some 82, _, _, _, _, _⟩) (by kernel_rfl) (by kernel_rfl) rfl (fun K0 hK => ?_)
      go_simp
      (with_reducible refine cmo (LN.out _ _ C6.out.tp) ?_); rintro e w7 ⟨⟨dl, ls, dp, dn, dc, se, ki, ar, bo⟩, x, q5, rfl, hv, hok, hd, hp7⟩; simp only [lCells]
      go_wp2_with fail
      have C7 := mh (C6.out.next hp7.tape hp7.but); have K7 := mh (KS.out _ C7.out); have HX := mh (And.intro hv (And.intro hok hd)); have HB7 := mh hp7.but; clear hv hok hd hp7; refine hK.out _ _ K7.out ?_; clear hK K0
      (try dsimp only [Act.put])
      try simp only [mnA, mnB, mnC]
      refine wpAnyK_take 14 (i := 14) (oi := ⟨some 83, _, _, _, _, _⟩) (v := ?vk72_14) rfl (by kernel_rfl) (by kernel_rfl) (by kernel_rfl) (by kernel_rfl) (fun _ _ _ h => h) (Or.inl ⟨by kernel_rfl, ?yk72_14⟩) (by assumption) ?rk72_14
      case yk72_14 =>
       intro W0 hSw
       (try dsimp only at hSw)
       go_simp
       try with_reducible rfl
      simp only [Act.put, mnA, mnB, mnC]; obtain ⟨gl, er, hgl, hfz, ⟨zd, zs, zp, zn, zc, ze, zk, za, zb⟩, hcl⟩ := (C7.out.lines HKR.out HKG.out).2.2 j2 (by rw [ER.out]; show j2 < j + 1; exact HJ2.out); rw [ER.out] at er
      cases er
      have c0 := hcl 0 _ rfl; have c1 := hcl 1 _ rfl; have c2 := hcl 2 _ rfl; have c3 := hcl 3 _ rfl; have c4 := hcl 4 _ rfl; have c5 := hcl 5 _ rfl; have c6 := hcl 6 _ rfl; have f0 := hfz (j2 * 7); have f1 := hfz (j2 * 7 + 1); have f2 := hfz (j2 * 7 + 2); have f3 := hfz (j2 * 7 + 3); have f4 := hfz (j2 * 7 + 4); have f5 := hfz (j2 * 7 + 5); have f6 := hfz (j2 * 7 + 6); simp only [Nat.add_zero] at c0; have HGL := mh hgl; clear hcl hfz hgl; refine wpAnyK_last (o := ⟨none, _, _, _, _, _⟩) (by kernel_rfl) rfl (fun K0 hK => ?_); go_simp; refine hK.out _ _ ?_; clear hK K0 c0 c1 c2 c3 c4 c5 c6 f0 f1 f2 f3 f4 f5 f6
      (try dsimp only [Act.put])
      try simp only [mnA, mnB, mnC]
      refine wpAnyH_done (by kernel_rfl) ?_ _
      have FIN := mh (show CoI w (put7 w7 bl (j2 * 7) ⟨dl, ls, dp, dn, dc, se, ki, ar, bo⟩) t l q5 gy #[.slice sp sn sc, .slice tp tn tc, I O ldue, I O llast, I O lmille, .slice gp gn gc, I O cp, I O ev, I O un, I O wd] (.slice (some ⟨go, 0, none⟩) m c1) R (G.set k { (G[k]'HKG.out) with lines := (G[k]'HKG.out).lines.set j2 x }) from
       C7.out.upd (put7_low (brf _ _) HGL.out _ _) (C6.out.fs.setLine HKR.out HKG.out HB7.out.size (fun b q hl => HB7.out.block b hl (by have := C6.out.tg; unfold NewQ at q; omega)) (fun b q => by have := C6.out.yb.lt; unfold NewQ; omega) (by rw [ER.out]) (by have := LNS.out.1; rw [ER.out] at this; simp only at this; rw [← this]; exact HJ2.out) _ _ HX.out.1))
      unfold put7 at FIN
      go_wp2_with fail
      go_roundw
      case rel => exact ⟨M, q5, R, _, by omega, by go_num, FIN.out, HK.out.set HKG.out ((HK.out.fm _ (List.getElem_mem HKG.out)).setLine HX.out.2.1 HX.out.2.2) rfl⟩
      case measure => simp [intOf]
     ·have hwm : IntKind.i64.wrap (j : Int) = (j : Int) := by have h1 := LNS.out.1; have h2 := (HK.out.fm _ (List.getElem_mem HKG.out)).len; rw [ER.out] at h1; simp only at h1; rw [IntKind.wrap_i64]; omega
      have hjc : j ≤ lc := by omega
      have hjcI : (j : Int) ≤ (lc : Int) := by omega
      have hjp : (0 : Int) ≤ (j : Int) := inn _; have RQ := run_lines_to bl 0 (j + 1) lc j hjc
      go_wp2_with (go_at_call 56; (with_reducible refine cmo T3.out ?_); rintro e w5 ⟨rfl, ht, hb⟩; have C5 := mh (C4.out.next ht hb); have x2 := (C5.out.row HKR.out).2.1; rw [ER.out] at x2; have f2 := (C5.out.row HKR.out).2.2.1 (k * 3 + 2); clear ht hb)
      have KD := mh (show w5.drew.cell? ⟨go, k * 3 + 2, none⟩ = some (.slice (some ⟨bl, 0, none⟩) (j + 1) lc) from by have := (C5.out.next (C5.out.tp.tape.below (brf _ _).drew) (But.of_below (brf _ _).drew)).row HKR.out; have := this.2.1; rwa [ER.out] at this); refine wp_region_K (fun w' => w'.cell? ⟨go, k * 3 + 2, none⟩ = some (.slice (some ⟨bl, 0, none⟩) (j + 1) lc)) 14 (by kernel_rfl) KD.out (fun hHeld => ?_); refine wpAnyK_take 0 (i := 0) (oi := ⟨some 48, _, _, _, _, _⟩) (v := ?vk71_0) rfl (by kernel_rfl) (by kernel_rfl) (by kernel_rfl) (by kernel_rfl) (fun _ _ _ h => h) (Or.inl ⟨by kernel_rfl, ?yk71_0⟩) (by assumption) ?rk71_0
      case yk71_0 =>
       intro W0 hSw
       (try dsimp only at hSw)
       go_simp
       try with_reducible rfl
      simp only [Act.put, mnA, mnB, mnC]; refine wpAnyK_take 1 (i := 1) (oi := ⟨some 49, _, _, _, _, _⟩) (v := ?vk71_1) rfl (by kernel_rfl) (by kernel_rfl) (by kernel_rfl) (by kernel_rfl) (fun _ _ _ h => h) (Or.inl ⟨by kernel_rfl, ?yk71_1⟩) (by assumption) ?rk71_1
      case yk71_1 =>
       intro W0 hSw
       (try dsimp only at hSw)
       go_simp
       try with_reducible rfl
      simp only [Act.put, mnA, mnB, mnC]; refine wpAnyK_take 2 (i := 2) (oi := ⟨some 50, _, _, _, _, _⟩) (v := ?vk71_2) rfl (by kernel_rfl) (by kernel_rfl) (by kernel_rfl) (by kernel_rfl) (fun _ _ _ h => h) (Or.inl ⟨by kernel_rfl, ?yk71_2⟩) (by assumption) ?rk71_2
      case yk71_2 =>
       intro W0 hSw
       (try dsimp only at hSw)
       go_simp
       try with_reducible rfl
      simp only [Act.put, mnA, mnB, mnC]; refine wpAnyK_take 3 (i := 3) (oi := ⟨some 51, _, _, _, _, _⟩) (v := ?vk71_3) rfl (by kernel_rfl) (by kernel_rfl) (by kernel_rfl) (by kernel_rfl) (fun _ _ _ h => h) (Or.inl ⟨by kernel_rfl, ?yk71_3⟩) (by assumption) ?rk71_3
      case yk71_3 =>
       intro W0 hSw
       (try dsimp only at hSw)
       go_simp
       try with_reducible rfl
      simp only [Act.put, mnA, mnB, mnC]; refine wpAnyK_take 4 (i := 4) (oi := ⟨some 52, _, _, _, _, _⟩) (v := ?vk71_4) rfl (by kernel_rfl) (by kernel_rfl) (by kernel_rfl) (by kernel_rfl) (fun _ _ _ h => h) (Or.inl ⟨by kernel_rfl, ?yk71_4⟩) (by assumption) ?rk71_4
      case yk71_4 =>
       intro W0 hSw
       (try dsimp only at hSw)
       go_simp
       try with_reducible rfl
      simp only [Act.put, mnA, mnB, mnC]; refine wpAnyK_take 5 (i := 5) (oi := ⟨some 53, _, _, _, _, _⟩) (v := ?vk71_5) rfl (by kernel_rfl) (by kernel_rfl) (by kernel_rfl) (by kernel_rfl) (fun _ _ _ h => h) (Or.inl ⟨by kernel_rfl, ?yk71_5⟩) (by assumption) ?rk71_5
      case yk71_5 =>
       intro W0 hSw
       (try dsimp only at hSw)
       go_simp
       try with_reducible rfl
      simp only [Act.put, mnA, mnB, mnC]; refine wpAnyK_take 6 (i := 6) (oi := ⟨some 54, _, _, _, _, _⟩) (v := ?vk71_6) rfl (by kernel_rfl) (by kernel_rfl) (by kernel_rfl) (by kernel_rfl) (fun _ _ _ h => h) (Or.inl ⟨by kernel_rfl, ?yk71_6⟩) (by assumption) ?rk71_6
      case yk71_6 =>
       intro W0 hSw
       (try dsimp only at hSw)
       go_simp
       try with_reducible rfl
      simp only [Act.put, mnA, mnB, mnC]; refine wpAnyK_take 7 (i := 7) (oi := ⟨some 55, _, _, _, _, _⟩) (v := ?vk71_7) rfl (by kernel_rfl) (by kernel_rfl) (by kernel_rfl) (by kernel_rfl) (fun _ _ _ h => h) (Or.inl ⟨by kernel_rfl, ?yk71_7⟩) (by assumption) ?rk71_7
      case yk71_7 =>
       intro W0 hSw
       (try dsimp only at hSw)
       go_simp
       try with_reducible rfl
      simp only [Act.put, mnA, mnB, mnC]; refine wpAnyK_take 8 (i := 8) (oi := ⟨some 56, _, _, _, _, _⟩) (v := ?vk71_8) rfl (by kernel_rfl) (by kernel_rfl) (by kernel_rfl) (by kernel_rfl) (fun _ _ _ h => h) (Or.inl ⟨by kernel_rfl, ?yk71_8⟩) (by assumption) ?rk71_8
      case yk71_8 =>
       intro W0 hSw
       (try dsimp only at hSw)
       go_simp
       try with_reducible rfl
      simp only [Act.put, mnA, mnB, mnC]; refine wpAnyK_take 9 (i := 9) (oi := ⟨some 57, _, _, _, _, _⟩) (v := ?vk71_9) rfl (by kernel_rfl) (by kernel_rfl) (by kernel_rfl) (by kernel_rfl) (fun _ _ _ h => h) (Or.inl ⟨by kernel_rfl, ?yk71_9⟩) (by assumption) ?rk71_9
      case yk71_9 =>
       intro W0 hSw
       (try dsimp only at hSw)
       go_simp
       try with_reducible rfl
      simp only [Act.put, mnA, mnB, mnC]; refine wpAnyK_take 10 (i := 10) (oi := ⟨some 58, _, _, _, _, _⟩) (v := ?vk71_10) rfl (by kernel_rfl) (by kernel_rfl) (by kernel_rfl) (by kernel_rfl) (fun _ _ _ h => h) (Or.inl ⟨by kernel_rfl, ?yk71_10⟩) (by assumption) ?rk71_10
      case yk71_10 =>
       intro W0 hSw
       (try dsimp only at hSw)
       go_simp
       try with_reducible rfl
      simp only [Act.put, mnA, mnB, mnC]; refine wpAnyK_take 11 (i := 11) (oi := ⟨some 59, _, _, _, _, _⟩) (v := ?vk71_11) rfl (by kernel_rfl) (by kernel_rfl) (by kernel_rfl) (by kernel_rfl) (fun _ _ _ h => h) (Or.inl ⟨by kernel_rfl, ?yk71_11⟩) (by assumption) ?rk71_11
      case yk71_11 =>
       intro W0 hSw
       (try dsimp only at hSw)
       go_simp
       try with_reducible rfl
      simp only [Act.put, mnA, mnB, mnC]; refine wpAnyK_take 13 (i := 12) (oi := ⟨some 60, _, _, _, _, _⟩) (v := ?vk71_12) rfl (by kernel_rfl) (by kernel_rfl) (by kernel_rfl) (by kernel_rfl) (fun _ _ _ h => h) (Or.inl ⟨by kernel_rfl, ?yk71_12⟩) (by assumption) ?rk71_12
      case yk71_12 =>
       intro W0 hSw
       (try dsimp only at hSw)
       go_simp
       try with_reducible rfl
      simp only [Act.put, mnA, mnB, mnC]; refine wpAnyK_take 13 (i := 13) (oi := ⟨some 61, _, _, _, _, _⟩) (v := ?vk71_13) rfl (by kernel_rfl) (by kernel_rfl) (by kernel_rfl) (by kernel_rfl) (fun _ _ _ h => h) (Or.inl ⟨by kernel_rfl, ?yk71_13⟩) (by assumption) ?rk71_13
      case yk71_13 =>
       intro W0 hSw
       (try dsimp only at hSw)
       go_simp
       try with_reducible rfl
      simp only [Act.put, mnA, mnB, mnC]; refine wpAnyK_last (o := ⟨none, _, _, _, _, _⟩) (by kernel_rfl) rfl (fun K0 hK => ?_); go_simp; refine hK.out _ _ ?_; clear hK K0 x2 f2
      (try dsimp only [Act.put])
      try simp only [mnA, mnB, mnC]
      refine wpAnyH_done (by kernel_rfl) ?_ _
      have C6 := mh (C5.out.next (C5.out.tp.tape.below (brf _ _).drew) (But.of_below (brf _ _).drew)); have FIN := mh (C6.out.upd ((brf (gy + 1) w5.drew).setCell (p := ⟨go, k * 3 + 2, none⟩) (C6.out.row HKR.out).2.2.2 _) (C6.out.fs.setShort LV.chgs HKR.out HKG.out (m := j) (by rw [ER.out]; exact Nat.le_succ j))); have E1 := mh (show (R[k]'HKR.out).lp = some ⟨bl, 0, none⟩ ∧ (R[k]'HKR.out).lc = lc by rw [ER.out]; exact ⟨rfl, rfl⟩); rw [E1.out.1, E1.out.2] at FIN
      go_wp2_with fail
      go_roundw
      case rel => exact ⟨M, q3, _, _, by omega, by go_num, FIN.out, HK.out.set HKG.out ((HK.out.fm _ (List.getElem_mem HKG.out)).short j) rfl⟩
      case measure => simp [intOf]
   ·obtain ⟨day, ed⟩ : ∃ x : Int, gives l q2 60 = x := ⟨_, rfl⟩
    have hd := gives_bd l q2 (n := 60) (by omega); rw [ed] at hd; have T3 := mh (ed ▸ TN.out w4 q2 60 C4.out.tp.tape (by omega)); have HD := mh hd; clear ed hd
    go_wp2_with (go_at_call 37; (with_reducible refine cmo T3.out ?_); rintro e w5 ⟨rfl, ht, hb⟩; have C5 := mh (C4.out.next ht hb); have x1 := (C5.out.row HKR.out).1; have f1 := (C5.out.row HKR.out).2.2.1 (k * 3 + 1); clear ht hb)
    have FIN := mh (C5.out.upd ((brf (gy + 1) w5).setCell (p := ⟨go, k * 3 + 1, none⟩) (C5.out.row HKR.out).2.2.2 _) (C5.out.fs.setDay LV.chgs HKR.out HKG.out day))
    go_roundw
    case rel => exact ⟨M, _, _, _, by omega, by go_num, FIN.out, HK.out.set HKG.out ((HK.out.fm _ (List.getElem_mem HKG.out)).setDay HD.out.1 HD.out.2) rfl⟩
    case measure => simp [intOf]
end Go.Proofs.YtmlfcpglhipjgaaGreat
