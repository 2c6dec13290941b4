/-
  PACKED (pack8.py): what is needed of the texts Ao, Ts, W2, W4, T9, T27, T29, T36, T12.
-/
import Derived.Test.YtmlfcpglhipjgaaGreatM23
set_option maxRecDepth 100000
set_option maxHeartbeats 8000000
open Go.Value renaming int → I
open Go.IntKind renaming i64 → O
namespace Go.Proofs.YtmlfcpglhipjgaaGreat
open Go.RowKit Sc As
theorem As.allAw_snoc (l : YLaw) (F : List FarmF) (f : FarmF) : allAw l (F ++ [f]) = allAw l F ++ farmAw l f := by unfold allAw; rw [List.flatMap_append]; simp
theorem As.allErr_snoc {l : YLaw} {F : List FarmF} (f : FarmF) (h : allErr l F = 0) : allErr l (F ++ [f]) = farmErr l f := by
 rw [allErr_append, if_neg (by rw [h]; simp)]; unfold allErr
 split
 ·rfl
 ·rename_i h; simp at h; rw [h]; rfl
theorem As.allErr_bad {l : YLaw} {F : List FarmF} {k : Nat} (hk : k < F.length) (h : allErr l (F.take k) = 0) (hne : farmErr l F[k] ≠ 0) : allErr l F = farmErr l F[k] := by
 have e : F = F.take k ++ F[k] :: F.drop (k + 1) := by rw [← List.drop_eq_getElem_cons hk, List.take_append_drop]
 have h2 : allErr l (F.take k ++ F[k] :: F.drop (k + 1)) = farmErr l F[k] := by
  rw [allErr_append, if_neg (by rw [h]; simp)]; unfold allErr; rw [if_pos hne]
 rw [← e] at h2; exact h2
def As.dueN (A : List Awd) (c : List Int) (j : Nat) : List Awd := A.mapIdx fun i a => if i < j then { a with due := c.getD i 0 } else a
theorem As.dueN_len (A : List Awd) (c : List Int) (j : Nat) : (dueN A c j).length = A.length := by unfold dueN; simp
theorem As.dueN_at (A : List Awd) (c : List Int) (j i : Nat) (h : i < (dueN A c j).length) (h' : i < A.length) : (dueN A c j)[i] = if i < j then { A[i] with due := c.getD i 0 } else A[i] := by simp [dueN]
theorem As.dueN_zero (A : List Awd) (c : List Int) : dueN A c 0 = A := by
 apply List.ext_getElem (dueN_len _ _ _)
 intro i h h'; rw [dueN_at _ _ _ _ h h', if_neg (by omega)]
theorem As.dueN_all (A : List Awd) (c : List Int) : dueN A c A.length = setDue A c := by
 apply List.ext_getElem (by rw [dueN_len, setDue_len])
 intro i h h'; rw [dueN_len] at h; rw [dueN_at _ _ _ _ _ h, if_pos h, setDue_at _ _ _ _ h]
theorem As.dueN_succ (A : List Awd) (c : List Int) (j : Nat) (h : j < (dueN A c j).length) : dueN A c (j + 1) = (dueN A c j).set j { (dueN A c j)[j] with due := c.getD j 0 } := by
 apply List.ext_getElem (by rw [List.length_set, dueN_len, dueN_len])
 intro i h1 h2; rw [dueN_len] at h1; rw [dueN_at _ _ _ _ _ h1, List.getElem_set]
 by_cases e : j = i
 ·subst e
  rw [if_pos rfl, if_pos (by omega), dueN_at _ _ _ _ _ h1, if_neg (by omega)]
 ·rw [if_neg e, dueN_at _ _ _ _ _ h1]
  by_cases h3 : i < j
  ·rw [if_pos h3, if_pos (by omega)]
  ·rw [if_neg h3, if_neg (by omega)]
structure As.DuS (H B : Nat) (w0 wr : World) (va : Value) (A : List Awd) (pF : Option Addr) (C : List Int) (j : Nat) : Prop where
 oa : OwnR SA wr 60 B va (dueN A C j)
 low : Below B w0 wr
 ints : Ints wr pF C
 nb : ∀ g, va.ownBlock = some g → g < H
 pf : ∀ a, pF = some a → H ≤ a.block
theorem As.DuS.set {H B : Nat} {w0 wr : World} {va : Value} {A : List Awd} {pF : Option Addr} {C : List Int} {j n : Nat} (h : DuS H B w0 wr va A pF C j) (hn : A.length = n) (hj : j < n) :
  ∃ g c u, va = .slice (some ⟨g, 0, none⟩) n c ∧ wr.cell? ⟨g, j * 9 + 8, none⟩ = some u ∧ wr.frozen? ⟨g, j * 9 + 8, none⟩ = false ∧ DuS H B w0 (wr.setCell ⟨g, j * 9 + 8, none⟩ (I O (C.getD j 0))) va A pF C (j + 1) := by
 have hl : (dueN A C j).length = n := by rw [dueN_len, hn]
 obtain ⟨p, c, e, -, -, -, -, -⟩ := h.oa.cut hl; have ho := h.oa; rw [e] at ho; obtain ⟨g, rfl, -, hB, hg, hcl, hf, hs⟩ := ho.at (show j < (dueN A C j).length by rw [hl]; exact hj); have h9 : SA.k = 9 := rfl; rw [h9] at hcl hs; have hgo : va.ownBlock = some g := by rw [e]; rfl
 refine ⟨g, c, _, e, hcl 8 _ rfl, hf _, ⟨?_, h.low.setCell (show B ≤ g from hB) _, ?_, h.nb, h.pf⟩⟩
 ·rw [e, dueN_succ _ _ _ (show j < (dueN A C j).length by rw [hl]; exact hj)]
  exact hs 8 _ _ (by omega) rfl
 ·refine ⟨h.ints.1, ?_⟩
  rcases h.ints.2 with q | ⟨b, off, q, hlt, hc⟩
  ·exact .inl q
  ·have : H ≤ b := h.pf _ q
   have := h.nb g hgo; exact .inr ⟨b, off, q, by simp [World.setCell]; exact hlt, fun k hk => (World.cell?_setCell_other _ _ _ _ (fun e => by simp only [Addr.mk.injEq] at e; omega)).trans (hc k hk)⟩
def As.AsG (l : YLaw) (F : List FarmF) (w : World) (e : Ending) (w' : World) : Prop :=
 ∃ va, e = .returned (.tuple #[va, I O (assErr l F)]) ∧ OwnR SA w' 60 w.heap.size va (assess l F) ∧ Below w.heap.size w w'
theorem As.AsG.err {l : YLaw} {F : List FarmF} {w w' : World} {er : Int} (h : assErr l F = er) (hne : er ≠ 0) (hb : Below w.heap.size w w') : AsG l F w (.returned (.tuple #[.slice none 0 0, I O er])) w' :=
 ⟨.slice none 0 0, by rw [h], by unfold assess; rw [if_pos (by rw [h]; exact hne)]; exact OwnR.nil _ _ _, hb⟩
theorem assess34_any {Q Q2 : Nat → Prop} (d : Nat) (r : RY) (l : YLaw) (p : Option Addr) (F : List FarmF) (cap : Nat) (w : World) (h : YV Q w d r l) (hF : FsAt Q2 w p F) :
  Calls Tryz.prog 26 #[.agg (yCells r).toArray, .slice p F.length cap] w (AsG l F w) := by
 have hlen := hF.len; have HB := mh (balloc mle (brf w.heap.size w) (.cells #[.slice r.sp r.sn r.sc, .slice r.tp r.tn r.tc, I O r.due, I O r.last, I O r.mille, .slice r.gp r.gn r.gc, I O r.cap, I O r.env, I O r.unit, I O r.width] 29)); have FA := mh (facts34_any d r l p F cap (w.alloc (.cells #[.slice r.sp r.sn r.sc, .slice r.tp r.tn r.tc, I O r.due, I O r.last, I O r.mille, .slice r.gp r.gn r.gc, I O r.cap, I O r.env, I O r.unit, I O r.width] 29)) (h.below HB.out) h.sc (hF.below HB.out)); have FR := mh (fun (W : World) (hb : Below w.heap.size w W) (y : RF) (f : FarmF) (W' : World) (hb' : Below W.heap.size W W') (hv : FV Q2 W y f) => frm34_any d r l y f W' ((h.below hb).below hb') (hv.below hb')); have HF := mh hF; have BY := mh (Blk.new w #[.slice r.sp r.sn r.sc, .slice r.tp r.tn r.tc, I O r.due, I O r.last, I O r.mille, .slice r.gp r.gn r.gc, I O r.cap, I O r.env, I O r.unit, I O r.width] 29); have HRE := mh (And.intro h.env h.unit); simp only [yCells] at FA FR ⊢; clear h hF; obtain ⟨c, ec⟩ : ∃ c, chkF l F = c := ⟨_, rfl⟩; rw [ec] at FA; have EC := mh ec; clear ec
 by_cases hc : c = 0
 rotate_left
 ·have hne : (c != 0) = true := by simpa using hc
  have ER := mh (show assErr l F = c from by unfold assErr; rw [EC.out, if_pos hc]); have HNE := mh hc; clear hc
  go_enter Tryz.func26, Tryz.ntmps26
  go_wp2_with (go_at_call 24; (with_reducible refine cmo FA.out ?_); rintro e w1 ⟨rfl, hb1⟩; have HB1 := mh (bstep mle HB.out hb1); clear hb1)
  go_ret2
  exact AsG.err ER.out HNE.out HB1.out
 subst hc; have FO := mh (fOk EC.out); have hF10 := FO.out.len; have NE0 : ((0 : Int) != 0) = false := by decide
 go_enter Tryz.func26, Tryz.ntmps26
 go_wp2_with (go_at_call 24; (with_reducible refine cmo FA.out ?_); rintro e w1 ⟨rfl, hb1⟩; have HB1 := mh (bstep mle HB.out hb1); have BY1 := mh (BY.out.below hb1); clear hb1)
 go_loopw [7, 28] (fun out i W => ∃ k : Nat, k ≤ F.length ∧ i = I O k ∧ allErr l (F.take k) = 0 ∧ OwnR SA W 60 w1.heap.size out (allAw l (F.take k)) ∧ Below w1.heap.size w1 W) (fun _ i _ => F.length - (intOf i).toNat)
 case atStart => exact ⟨0, Nat.zero_le _, rfl, rfl, OwnR.nil _ _ _, brf _ _⟩
 case round =>
  obtain ⟨wo, rfl⟩ : ∃ wo : World, wo = wr := ⟨_, rfl⟩; obtain ⟨k, hk, rfl, her, hO, hb⟩ := hrel; have HO := mh hO; have HER := mh her; have HBO := mh hb; have HWO := mh (show Below w.heap.size w wo from HB1.out.trans (hb.mono HB1.out.size)); have hk0 : (0 : Int) ≤ (k : Int) := inn _; clear hO her
  by_cases hlt : k < F.length
  ·have hk1 : (k : Int) < (F.length : Int) := by omega
   have BYO := mh (Blk.below BY1.out (hb.mono mle)); obtain ⟨b, off, ⟨fa, da, lp, ln, lc⟩, rfl, hbl, ⟨c0, c1, c2⟩, hv⟩ := (HF.out.below HWO.out).at hlt; simp only at c0 c1 c2; have ST := mh (tsg hlt)
   have HLE := mh (show (allAw l (F.take k)).length ≤ 160 ∧ (farmAw l F[k]).length ≤ 16 from by
    have h1 := allAw_le l (F.take k); have h2 := farmAw_le l F[k]; have h3 := FO.out.law.len; have h4 : (F.take k).length ≤ 10 := by rw [List.length_take]; omega
    have h5 : (F.take k).length * l.sch.length ≤ 10 * 16 := Nat.mul_le_mul h4 h3
    omega)
   have BAD := mh (fun h => allErr_bad (l := l) hlt HER.out h); obtain ⟨f, ef⟩ : ∃ f, F[k] = f := ⟨_, rfl⟩; rw [ef] at hv ST HLE BAD; have hba := (brf wo.heap.size wo).alloc mle (.cells #[I O fa, I O da, .slice lp ln lc] 47); have FRc := mh (FR.out wo HWO.out ⟨fa, da, lp, ln, lc⟩ f (wo.alloc (.cells #[I O fa, I O da, .slice lp ln lc] 47)) hba hv); simp only [fCells] at FRc; have B2 := mh (BYO.out.below hba); have y0 := B2.out.cell 0; have y1 := B2.out.cell 1; have y2 := B2.out.cell 2; have y3 := B2.out.cell 3; have y4 := B2.out.cell 4; have y5 := B2.out.cell 5; have y6 := B2.out.cell 6; have y7 := B2.out.cell 7; have y8 := B2.out.cell 8; have y9 := B2.out.cell 9; have HO2 := mh (HO.out.below hba); have HB2 := mh (hb.trans (hba.mono hb.size)); unfold FrG at FRc; obtain ⟨E, eE⟩ : ∃ E, farmErr l f = E := ⟨_, rfl⟩; rw [eE] at FRc BAD; have EE := mh eE; clear hv ef hba eE hbl hb
   by_cases hE : E = 0
   ·subst hE
    go_wp2_with (first | (go_at_call 33; (with_reducible refine cmo FRc.out ?_); rintro e w3 ⟨va, vr, rfl, hoa, hor, hb3⟩; obtain ⟨pa, ca, rfl, hpn, -, -, -, hra⟩ := hoa.cut rfl; have HRA := mh hra; have HPN := mh (fun e => (hpn e).1); have HO3 := mh (HO2.out.below hb3); have HB3 := mh (HB2.out.trans (hb3.mono HB2.out.size)); clear hoa hor hb3 hpn hra) | (at_builtin; (refine OwnR.appendAll el_awd rfl (.tmp 42) (.tmp 43) rfl w1.heap.size _ (allAw l (F.take k)) (farmAw l f) pa ca (farmAw l f).length rfl HO3.out HRA.out HPN.out rfl rfl HB3.out.size (by have := HLE.out; omega) (by decide) ?_); intro v5 w5 hO5 hap5; have HO5 := mh hO5; have HB5 := mh (HB3.out.trans hap5.below); clear hO5 hap5) | fail)
    go_roundw
    case rel => exact ⟨k + 1, by omega, by go_num, by rw [ST.out, allErr_snoc _ HER.out, EE.out], by rw [ST.out, allAw_snoc]; exact HO5.out, HB5.out⟩
    case measure => simp [intOf]; omega
   ·have hne : (E != 0) = true := by simpa using hE
    have HNE := mh hE; clear hE; have ER := mh (show assErr l F = E from by unfold assErr; rw [EC.out, if_neg (by simp), BAD.out HNE.out, if_pos HNE.out])
    go_wp2_with (go_at_call 33; (with_reducible refine cmo FRc.out ?_); rintro e w3 ⟨va, vr, rfl, -, -, hb3⟩; have HB3 := mh (HB2.out.trans (hb3.mono HB2.out.size)); clear hb3)
    go_ret2
    exact AsG.err ER.out HNE.out (HB1.out.trans (HB3.out.mono HB1.out.size))
  ·obtain rfl : k = F.length := by omega
   rw [List.take_length] at HER HO; obtain ⟨po, co, rfl, hpo, hpb, -, -, hro⟩ := HO.out.cut rfl; have HRO := mh hro
   have HLE := mh (show (allAw l F).length ≤ 160 from by
    have h1 := allAw_le l F; have h3 := FO.out.law.len; have h5 : F.length * l.sch.length ≤ 10 * 16 := Nat.mul_le_mul hF10 h3
    omega)
   have HPB := mh (fun x e => (hpb x e).2.2.2); clear hro hpo hpb hk hlt hk0
   by_cases h64 : 64 < (allAw l F).length
   ·have ER := mh (show assErr l F = 1 from by unfold assErr; rw [EC.out, if_neg (by simp), HER.out, if_neg (by simp), if_pos h64])
    have h64i : (64 : Int) < ((allAw l F).length : Int) := by omega
    clear h64
    go_wp2
    go_ret2
    exact AsG.err ER.out (by decide) HWO.out
   ·have G := all_good FO.out (show (allAw l F).length ≤ 64 by omega)
    have GE := En.err_of G; have GL := G.keeps.len; have ER := mh (show assErr l F = 0 from by unfold assErr; rw [EC.out, if_neg (by simp), HER.out, if_neg (by simp), if_neg h64]; exact GE); have EA := mh (show assess l F = setDue (allAw l F) (En.scale l.env l.unit (cappeds (allAw l F))) from by unfold assess; rw [if_neg (by rw [ER.out]; simp)]); have h64i : ¬ (64 : Int) < ((allAw l F).length : Int) := by omega
    obtain ⟨A, eA⟩ : ∃ A, allAw l F = A := ⟨_, rfl⟩; rw [eA] at HO HRO HLE h64i EA GE GL ⊢; have CL : (cappeds A).length = A.length := by unfold cappeds; simp
    obtain ⟨C, eC⟩ : ∃ C, En.scale l.env l.unit (cappeds A) = C := ⟨_, rfl⟩; rw [eC] at EA GL; obtain ⟨n, en⟩ : ∃ n, A.length = n := ⟨_, rfl⟩; have HNA := mh en; have HNC := mh (show C.length = n from by rw [GL, CL, en]); have hn64 : n ≤ 64 := by omega
    have SCL := mh (fun (W : World) (q : Option Addr) (cq : Nat) (hq : Ints W q (cappeds A)) => show Calls Tryz.prog 70 #[I O r.env, I O r.unit, .slice q n cq] W (GivesNew W C 0) from by
     have := scale_new r.env r.unit q (cappeds A) cq W hq; rw [HRE.out.1, HRE.out.2, eC, GE, CL, en] at this; rw [HRE.out.1, HRE.out.2]
     exact this)
    rw [en] at h64i HO ⊢; clear h64 G GE GL eA eC CL en; have YO := mh (Blk.below BY1.out (HBO.out.mono mle))
    go_wp2
    go_loopw [8, 51] (fun cv i W => ∃ k : Nat, k ≤ n ∧ i = I O k ∧ OwnR SI W 3 wo.heap.size cv (cappeds (A.take k)) ∧ Below wo.heap.size wo W) (fun _ i _ => n - (intOf i).toNat)
    case atStart => exact ⟨0, Nat.zero_le _, rfl, OwnR.nil _ _ _, brf _ _⟩
    case round =>
     obtain ⟨wp, rfl⟩ : ∃ wp : World, wp = wr := ⟨_, rfl⟩; obtain ⟨k, hk, rfl, hC, hb2⟩ := hrel; have HC := mh hC; have HB2 := mh hb2; have hk0 : (0 : Int) ≤ (k : Int) := inn _; clear hC hb2
     by_cases hlt : k < n
     ·have hk1 : (k : Int) < (n : Int) := by omega
      have hkA : k < A.length := by rw [HNA.out]; exact hlt
      obtain ⟨b, off, rfl, hbl, ⟨c0, c1, c2, c3, c4, c5, c6, c7, c8⟩⟩ := SA_at (HRO.out.below HB2.out) hkA
      have ST := mh (show cappeds (A.take (k + 1)) = cappeds (A.take k) ++ [A[k].capped] from by
       rw [tsg hkA]; unfold cappeds; rw [List.map_append]; rfl)
      have HCL := mh (show (cappeds (A.take k)).length ≤ 64 from by unfold cappeds; rw [List.length_map, List.length_take]; omega); obtain ⟨x, ex⟩ : ∃ x, A[k] = x := ⟨_, rfl⟩; rw [ex] at c0 c1 c2 c3 c4 c5 c6 c7 c8 ST; have hbx := (brf wp.heap.size wp).alloc mle (.cells #[I O x.farm, I O x.scheme, I O x.decl, I O x.det, I O x.paid, I O x.rated, I O x.timely, I O x.capped, I O x.due] 60); have HC2 := mh (HC.out.below hbx); have HBX := mh (HB2.out.trans (hbx.mono HB2.out.size)); clear hbl ex hbx
      go_wp2_with (first | (at_builtin; (refine OwnR.append el_int rfl (.tmp 55) (.tmp 58) rfl wo.heap.size _ (cappeds (A.take k)) x.capped #[I O x.capped] rfl HC2.out rfl (by simp [Act.eval]) HBX.out.size (by have := HCL.out; omega) (by decide) ?_); intro v5 w5 hO5 hap5; have HO5 := mh hO5; have HB5 := mh (HBX.out.trans hap5.below); clear hO5 hap5) | fail)
      go_roundw
      case rel => exact ⟨k + 1, by omega, by go_num, by rw [ST.out]; exact HO5.out, HB5.out⟩
      case measure => simp [intOf]; omega
     ·obtain rfl : k = n := by omega
      have HC' := mh (show OwnR SI wp 3 wo.heap.size _ (cappeds A) from by have := HC.out; rw [List.take_of_length_le (by rw [HNA.out]; exact Nat.le_refl _)] at this; exact this); obtain ⟨pc, cc, rfl, -, -, -, -, hrc⟩ := HC'.out.cut (show (cappeds A).length = k from by unfold cappeds; rw [List.length_map, HNA.out]); have SC := mh (SCL.out wp pc cc hrc.ints); have YP := mh (YO.out.below HB2.out); have y7 := YP.out.cell 7; have y8 := YP.out.cell 8; have HOA := mh (HO.out.below HB2.out); have HBP := mh (show Below w1.heap.size w1 wp from HBO.out.trans (HB2.out.mono HBO.out.size)); clear hrc hk hlt hk0
      go_wp2_with fail
      (with_reducible refine cmo SC.out ?_); rintro e w6 ⟨pF, cF, rfl, hI, hb6, hnw⟩; have CPS := mh (show DuS wp.heap.size w1.heap.size w1 w6 (.slice po k co) A pF C 0 from ⟨by rw [dueN_zero]; exact HOA.out.below hb6, HBP.out.trans (hb6.mono HBP.out.size), hI, fun g hg => (HOA.out.lt hg).2, hnw⟩); clear hI hb6 hnw
      go_wp2_with fail
      rw [HNC.out]
      go_loopw [75] (fun i W => ∃ j : Nat, j ≤ k ∧ i = I O j ∧ DuS wp.heap.size w1.heap.size w1 W (.slice po k co) A pF C j) (fun i _ => k - (intOf i).toNat)
      case atStart => exact ⟨0, Nat.zero_le _, rfl, CPS.out⟩
      case round =>
       obtain ⟨wq, rfl⟩ : ∃ wq : World, wq = wr := ⟨_, rfl⟩; obtain ⟨j, hj, rfl, hp⟩ := hrel; have HP := mh hp; clear hp CPS y7 y8; have hj0 : (0 : Int) ≤ (j : Int) := inn _
       by_cases hlt : j < k
       ·have hj1 : (j : Int) < (k : Int) := by omega
        obtain ⟨b, off, x, rfl, hb, hcx, hx⟩ := HP.out.ints.get (show j < C.length by rw [HNC.out]; exact hlt); obtain ⟨g, c, u, ev, h8, f8, hset⟩ := HP.out.set HNA.out hlt
        cases ev
        rw [hx.out] at hset; have HSET := mh hset; clear hset hx hb
        go_wp2
        go_roundw
        case rel => exact ⟨j + 1, by omega, by go_num, HSET.out⟩
        case measure => simp [intOf]; omega
       ·obtain rfl : j = k := by omega
        clear hlt
        go_wp2
        go_ret2
        exact ⟨_, by rw [ER.out]; rfl, by rw [EA.out, ← dueN_all, HNA.out]; exact HP.out.oa.mono HB1.out.size, HB1.out.trans (HP.out.low.mono HB1.out.size)⟩
namespace Te
open Go.Lib
/-! ### how long -/
theorem itoa_le {n : Int} (h0 : 0 ≤ n) {k : Nat} (hk : 1 ≤ k) (h : n < 10 ^ k) : (itoa n).length ≤ k := by
 unfold itoa; rw [if_neg (by omega), decDigits_length]; have key : ∀ (k u : Nat), u < 10 ^ (k + 1) → nDigits u ≤ k + 1 := by
  intro k
  induction k with
  | zero => intro u hu; rw [nDigits_small (by simpa using hu)]; omega
  | succ k ih =>
    intro u hu
    by_cases h1 : u < 10
    ·rw [nDigits_small h1]; omega
    ·rw [nDigits_big h1]
     have := ih (u / 10) (by rw [Nat.pow_succ] at hu; omega); omega
 obtain ⟨k, rfl⟩ : ∃ j, k = j + 1 := ⟨k - 1, by omega⟩; refine key k n.toNat ?_; have e : ((10 ^ (k + 1) : Nat) : Int) = (10 : Int) ^ (k + 1) := by push_cast; rfl
 omega
end Te
def DecGive (n : Int) (w : World) (e : Ending) (w' : World) : Prop := e = .returned (.string ⟨(Lib.itoa n).toArray⟩) ∧ Below w.heap.size w w'
theorem ret_str {a b : ByteArray} (h : a = b) : Ending.returned (.string a) = .returned (.string b) := by rw [h]
theorem itoa_small {n : Int} (h0 : 0 ≤ n) (h : n < 10) : Lib.itoa n = [Wo.dch (n.toNat)] := by
 unfold Lib.itoa; rw [if_neg (by omega), Lib.decDigits, dif_pos (by omega)]
 rfl
theorem conv1 (W : World) (b d : Nat) (hd : d < 10) (h : W.cell? ⟨b, 0, none⟩ = some (.int .u8 (48 + (d : Int)))) : (convert 220 9 (.slice (some ⟨b, 0, none⟩) 1 1)).run Tryz.prog W = .ok (.string ⟨#[Wo.dch (d)]⟩) W := by
 have e : (Wo.dch d).toNat = 48 + d := Wo.dig_toNat d hd
 have := run_convert_bytes_back (P := Tryz.prog) W 220 9 5 ⟨b, 0, none⟩ 1 [Wo.dch (d)] Tryz.underlying220 Tryz.underlying5 Tryz.underlying9 (fun j hj => by
  match j, hj with
  | 0, _ =>
    show W.cell? ⟨b, 0, none⟩ = some (.int .u8 (((Wo.dch (d)).toNat : Nat) : Int))
    rw [h, e]; simp)
 exact this
theorem app1 (l : List UInt8) (c : UInt8) : (⟨l.toArray⟩ : ByteArray) ++ ⟨#[c]⟩ = ⟨(l ++ [c]).toArray⟩ := by rw [ByteArray.mk_append_mk]
theorem itoa_big {n : Int} (h : 10 ≤ n) : Lib.itoa n = Lib.itoa (n / 10) ++ [Wo.dch ((n % 10).toNat)] := by
 unfold Lib.itoa; rw [if_neg (by omega), if_neg (by omega), Lib.decDigits, dif_neg (by omega)]; have e1 : n.toNat / 10 = (n / 10).toNat := by omega
 have e2 : n.toNat % 10 = (n % 10).toNat := by omega
 rw [e1, e2]
 rfl
theorem itoa_neg1 {u : Nat} (h0 : 0 < u) (h : u < 10) : Lib.itoa (-(u : Int)) = [45, Wo.dch u] := by
 unfold Lib.itoa; rw [if_pos (by omega), show (-(u : Int)).natAbs = u by omega, Lib.decDigits, dif_pos h]
 rfl
theorem itoa_neg2 {u : Nat} (h : 10 ≤ u) : Lib.itoa (-(u : Int)) = Lib.itoa (-((u / 10 : Nat) : Int)) ++ [Wo.dch (u % 10)] := by
 unfold Lib.itoa; rw [if_pos (by omega), if_pos (by omega), show (-(u : Int)).natAbs = u by omega, show (-((u / 10 : Nat) : Int)).natAbs = u / 10 by omega, Lib.decDigits, dif_neg (by omega)]
 rfl
theorem refdecimal_any (N : Nat) : ∀ (n : Int) (w : World), n.natAbs < N → -9223372036854775808 ≤ n → n ≤ 9223372036854775807 → Calls Tryz.prog 129 #[I O n] w (DecGive n w) := by
 induction N with
 | zero => intro n w h; omega
 | succ N ih =>
   intro n w h h0 h1
   by_cases hn : n < 0
   ·by_cases h10 : -10 < n
    ·obtain ⟨d, rfl⟩ : ∃ d : Nat, n = -(d : Int) := ⟨n.natAbs, by omega⟩
     have HS := mh (itoa_neg1 (u := d) (by omega) (by omega)); have hb : IntKind.u8.wrap (48 + (d : Int)) = 48 + d := by rw [IntWalk.u8_in]; omega
     have hq2 : (-(d : Int)).tmod 10 = -(d : Int) := by rw [Int.neg_tmod, Int.tmod_eq_emod_of_nonneg (by omega)]; omega
     have CV := conv1 (w.alloc (Obj.cells #[.int .u8 (48 + (d : Int))] 5)) w.heap.size d (by omega) (by go_simp); clear ih h h0 h1
     go_enter Tryz.func129, Tryz.ntmps129
     go_wp2
     go_ret
     exact ⟨ret_str (by rw [HS.out]; rfl), (brf _ _).alloc mle _⟩
    ·obtain ⟨q, m, rfl, hm10⟩ : ∃ q m : Nat, n = -((10 * q + m : Nat) : Int) ∧ m < 10 := ⟨n.natAbs / 10, n.natAbs % 10, by omega, by omega⟩
     have hd : Lib.itoa (-((10 * q + m : Nat) : Int)) = Lib.itoa (-(q : Int)) ++ [Wo.dch m] := by
      rw [itoa_neg2 (by omega), show (10 * q + m) / 10 = q by omega, show (10 * q + m) % 10 = m by omega]
     have HI := mh (fun (W : World) => ih (-(q : Int)) W (by omega) (by omega) (by omega)); obtain ⟨sq, esq⟩ : ∃ x : ByteArray, (⟨(Lib.itoa (-(q : Int))).toArray⟩ : ByteArray) = x := ⟨_, rfl⟩; have hsz : sq.size + 1 ≤ 9223372036854775807 := by
      have := (Wo.itoa_len20 (-(q : Int)) (by omega) (by omega)).2; rw [← esq]; show (Lib.itoa (-(q : Int))).toArray.size + 1 ≤ _; simp; omega
     have ES := mh esq; clear esq; have HF := mh (show sq ++ ⟨#[Wo.dch m]⟩ = ⟨(Lib.itoa (-((10 * q + m : Nat) : Int))).toArray⟩ by rw [hd, ← ES.out, app1]); have hq1 : (-((10 * q + m : Nat) : Int)).tdiv 10 = -(q : Int) := by rw [Int.neg_tdiv, Int.tdiv_eq_ediv_of_nonneg (by omega)]; omega
     have hq2 : (-((10 * q + m : Nat) : Int)).tmod 10 = -(m : Int) := by rw [Int.neg_tmod, Int.tmod_eq_emod_of_nonneg (by omega)]; omega
     have hq0 : (0 : Int) ≤ q := by omega
     obtain ⟨n, en⟩ : ∃ n : Int, -((10 * q + m : Nat) : Int) = n := ⟨_, rfl⟩; have hb : IntKind.u8.wrap (48 + (m : Int)) = 48 + m := by rw [IntWalk.u8_in]; omega
     have hb2 : IntKind.i64.wrap (48 + (m : Int)) = 48 + m := IntWalk.i64_in _ ⟨by omega, by omega⟩; have hb3 : IntKind.i64.wrap (-(q : Int)) = -(q : Int) := IntWalk.i64_in _ ⟨by omega, by omega⟩; have hb4 : IntKind.i64.wrap (m : Int) = m := IntWalk.i64_in _ ⟨by omega, by omega⟩; have hn' : n < 0 := by omega
     have h10' : ¬ -10 < n := by omega
     have CA := conv1 ((w.alloc (Obj.cells #[.int .u8 (48 + (m : Int))] 5)).drew) w.heap.size m hm10 (by go_simp); have CH : ((w.alloc (Obj.cells #[.int .u8 (48 + (m : Int))] 5)).drew).cell? ⟨w.heap.size, 0, none⟩ = some (.int .u8 (48 + (m : Int))) := by go_simp
     have HC := mh CH; clear CH; rw [en] at hd hq1 hq2 h0 h1; rw [en] at HF; rw [en]; clear hd ih h en hn h10 h0 h1
     go_enter Tryz.func129, Tryz.ntmps129
     go_wp2_with fail
     go_region_with (first | (go_at_call 129; (with_reducible refine cmo (HI.out w.drew) ?_); rintro e w1 ⟨rfl, hb1⟩; rw [ES.out]; have CW := conv1 (w1.alloc (Obj.cells #[.int .u8 (48 + (m : Int))] 5)) w1.heap.size m hm10 (by go_simp)) | (go_at_call 129; (with_reducible refine cmo (HI.out ((w.alloc (Obj.cells #[.int .u8 (48 + (m : Int))] 5)).drew)) ?_); rintro e w1 ⟨rfl, hb1⟩; rw [ES.out]; have CW := conv1 w1 w.heap.size m hm10 ((hb1.cell (p := ⟨w.heap.size, 0, none⟩) (by simp)).trans HC.out)))
     all_goals
      go_wp2
      go_ret
      refine ⟨ret_str HF.out, ?_⟩
      first
       | exact ((brf _ w).drew.trans (hb1.mono mle)).alloc (by have := hb1.size; simpa using this) _
       | exact (((brf _ w).alloc mle _).drew).trans (hb1.mono (by simp))
   ·by_cases h10 : n < 10
    ·obtain ⟨d, rfl⟩ : ∃ d : Nat, n = d := ⟨n.toNat, by omega⟩
     have HS := mh (itoa_small (n := d) (by omega) h10); have hb : IntKind.u8.wrap (48 + (d : Int)) = 48 + d := by rw [IntWalk.u8_in]; omega
     have CV := conv1 (w.alloc (Obj.cells #[.int .u8 (48 + (d : Int))] 5)) w.heap.size d (by omega) (by go_simp); clear ih h h0 h1
     go_enter Tryz.func129, Tryz.ntmps129
     go_wp2
     go_ret
     exact ⟨ret_str (by rw [HS.out]; rfl), (brf _ _).alloc mle _⟩
    ·obtain ⟨q, m, rfl, hm10⟩ : ∃ q m : Nat, n = 10 * (q : Int) + m ∧ m < 10 := ⟨(n / 10).toNat, (n % 10).toNat, by omega, by omega⟩
     have hd : Lib.itoa (10 * (q : Int) + m) = Lib.itoa q ++ [Wo.dch m] := by
      rw [itoa_big (by omega), show (10 * (q : Int) + m) / 10 = q by omega, show ((10 * (q : Int) + m) % 10).toNat = m by omega]
     have HI := mh (fun (W : World) => ih (q : Int) W (by omega) (by omega) (by omega)); obtain ⟨sq, esq⟩ : ∃ x : ByteArray, (⟨(Lib.itoa q).toArray⟩ : ByteArray) = x := ⟨_, rfl⟩; have hsz : sq.size + 1 ≤ 9223372036854775807 := by
      have := (Wo.itoa_len20 (q : Int) (by omega) (by omega)).2; rw [← esq]; show (Lib.itoa (q : Int)).toArray.size + 1 ≤ _; simp; omega
     have ES := mh esq; clear esq; have HF := mh (show sq ++ ⟨#[Wo.dch m]⟩ = ⟨(Lib.itoa (10 * (q : Int) + m)).toArray⟩ by rw [hd, ← ES.out, app1]); have hq1 : (10 * (q : Int) + m).tdiv 10 = q := by rw [Int.tdiv_eq_ediv_of_nonneg (by omega)]; omega
     have hq2 : (10 * (q : Int) + m).tmod 10 = m := by rw [Int.tmod_eq_emod_of_nonneg (by omega)]; omega
     have hq0 : (0 : Int) ≤ q := by omega
     obtain ⟨n, en⟩ : ∃ n : Int, 10 * (q : Int) + m = n := ⟨_, rfl⟩; have hb : IntKind.u8.wrap (48 + (m : Int)) = 48 + m := by rw [IntWalk.u8_in]; omega
     have hb2 : IntKind.i64.wrap (48 + (m : Int)) = 48 + m := IntWalk.i64_in _ ⟨by omega, by omega⟩; have hb3 : IntKind.i64.wrap (q : Int) = q := IntWalk.i64_in _ ⟨by omega, by omega⟩; have hb4 : IntKind.i64.wrap (m : Int) = m := IntWalk.i64_in _ ⟨by omega, by omega⟩; have hn' : ¬ n < 0 := by omega
     have h10' : ¬ n < 10 := by omega
     have CA := conv1 ((w.alloc (Obj.cells #[.int .u8 (48 + (m : Int))] 5)).drew) w.heap.size m hm10 (by go_simp); have CH : ((w.alloc (Obj.cells #[.int .u8 (48 + (m : Int))] 5)).drew).cell? ⟨w.heap.size, 0, none⟩ = some (.int .u8 (48 + (m : Int))) := by go_simp
     have HC := mh CH; clear CH; rw [en] at hd hq1 hq2 h0 h1; rw [en] at HF; rw [en]; clear hd ih h en hn h10 h0 h1
     go_enter Tryz.func129, Tryz.ntmps129
     go_wp2_with fail
     go_region_with (first | (go_at_call 129; (with_reducible refine cmo (HI.out w.drew) ?_); rintro e w1 ⟨rfl, hb1⟩; rw [ES.out]; have CW := conv1 (w1.alloc (Obj.cells #[.int .u8 (48 + (m : Int))] 5)) w1.heap.size m hm10 (by go_simp)) | (go_at_call 129; (with_reducible refine cmo (HI.out ((w.alloc (Obj.cells #[.int .u8 (48 + (m : Int))] 5)).drew)) ?_); rintro e w1 ⟨rfl, hb1⟩; rw [ES.out]; have CW := conv1 w1 w.heap.size m hm10 ((hb1.cell (p := ⟨w.heap.size, 0, none⟩) (by simp)).trans HC.out)))
     all_goals
      go_wp2
      go_ret
      refine ⟨ret_str HF.out, ?_⟩
      first
       | exact ((brf _ w).drew.trans (hb1.mono mle)).alloc (by have := hb1.size; simpa using this) _
       | exact (((brf _ w).alloc mle _).drew).trans (hb1.mono (by simp))
open Te
theorem refdec_any (n : Int) (w : World) (h0 : -9223372036854775808 ≤ n) (h1 : n ≤ 9223372036854775807) : Calls Tryz.prog 129 #[I O n] w (DecGive n w) := refdecimal_any (n.natAbs + 1) n w (by omega) h0 h1
def tw (L : List Sch) (i : Nat) (s : Sch) (j : Nat) : Bool := match L[j]? with | some x => nmIs s.nm x || (decide (j + 1 = i) && decide (s.num ≤ x.num)) | none => false
theorem tw_at {L : List Sch} {i j : Nat} {s : Sch} (hj : j < L.length) : tw L i s j = (nmIs s.nm L[j] || (decide (j + 1 = i) && decide (s.num ≤ L[j].num))) := by
 unfold tw; rw [List.getElem?_eq_getElem hj]
theorem twice_tw {L : List Sch} {i : Nat} {s : Sch} (hi : i ≤ L.length) : twice L i s = true ↔ ∃ j, j < i ∧ tw L i s j = true := by
 have hany : (L.take i).any (fun x => x.nm.data.toList == s.nm.data.toList) = true ↔ ∃ j, ∃ h : j < L.length, j < i ∧ nmIs s.nm L[j] = true := by
  rw [List.any_eq_true]
  constructor
  ·rintro ⟨x, hx, hp⟩
   obtain ⟨j, hj, rfl⟩ := List.mem_iff_getElem.1 hx; rw [List.length_take] at hj; refine ⟨j, by omega, by omega, ?_⟩; rw [List.getElem_take] at hp; exact hp
  ·rintro ⟨j, hj, hji, hp⟩
   exact ⟨L[j], List.mem_iff_getElem.2 ⟨j, by rw [List.length_take]; omega, List.getElem_take⟩, hp⟩
 unfold twice; rw [Bool.or_eq_true, hany]
 constructor
 ·rintro (h | ⟨j, hj, hji, hp⟩)
  ·cases i with
   | zero => cases h
   | succ k =>
     simp only at h; rw [List.getElem?_eq_getElem (show k < L.length by omega)] at h; simp only at h; exact ⟨k, by omega, by rw [tw_at (by omega), h]; simp⟩
  ·exact ⟨j, hji, by rw [tw_at hj, hp, Bool.true_or]⟩
 ·rintro ⟨j, hj, h⟩
  rw [tw_at (show j < L.length by omega), Bool.or_eq_true] at h
  rcases h with h | h
  ·exact .inr ⟨j, by omega, hj, h⟩
  ·rw [Bool.and_eq_true, decide_eq_true_eq] at h
   obtain ⟨h1, h2⟩ := h; subst h1
   left
   simp only; rw [List.getElem?_eq_getElem (show j < L.length by omega)]; exact h2
theorem twice_yes {L : List Sch} {i j : Nat} {s : Sch} (hi : i ≤ L.length) (hj : j < i) (h : tw L i s j = true) : twice L i s = true := (twice_tw hi).2 ⟨j, hj, h⟩
theorem twice_no {L : List Sch} {i : Nat} {s : Sch} (hi : i ≤ L.length) (h : ∀ j, j < i → tw L i s j = false) : twice L i s = false := by
 rw [Bool.eq_false_iff]; intro h2; obtain ⟨j, hj, h3⟩ := (twice_tw hi).1 h2; rw [h j hj] at h3
 cases h3
theorem refcheck17_any {Q : Nat → Prop} (d : Nat) (p : Option Addr) (L : List Sch) (cap : Nat) (w : World) (h : SsAt Q w d p L) (hz : ∀ s ∈ L, s.nm.size ≤ 9223372036854775807) (hcap : L.length ≤ cap) (hct : ∀ s ∈ L, count s.cond ≤ 1099511627776) :
  Calls Tryz.prog 63 #[.slice p L.length cap] w (ChkG (chk17 L) w) := by
 have hlen := h.len; have H := mh h; have HZ := mh hz; have HCT := mh hct; clear h hz hct; obtain ⟨cv, ecv⟩ : ∃ v, chk17 L = v := ⟨_, rfl⟩; rw [ecv]; have ECV := mh ecv; clear ecv
 by_cases h16 : 16 < L.length
 ·have HV := mh (show cv = (0, 1) from ECV.out ▸ chk_long h16)
  go_enter Tryz.func63, Tryz.ntmps63
  go_wp2
  go_ret2
  exact ⟨by rw [HV.out]; rfl, brf _ _⟩
 go_enter Tryz.func63, Tryz.ntmps63
 go_wp2
 go_loopw [18] (fun i wr => ∃ k : Nat, k ≤ L.length ∧ i = I O k ∧ (∀ j, j < k → errA L j = 0) ∧ Below w.heap.size w wr) (fun i _ => L.length - (intOf i).toNat)
 case atStart => exact ⟨0, Nat.zero_le _, rfl, fun j hj => absurd hj (Nat.not_lt_zero j), brf _ _⟩
 case round =>
  obtain ⟨wo, rfl⟩ : ∃ wo : World, wo = wr := ⟨_, rfl⟩; obtain ⟨k, hk, rfl, ha, hb⟩ := hrel; have HAL := mh ha; have HB := mh hb; have hk0 : (0 : Int) ≤ (k : Int) := inn _
  by_cases hlt : k < L.length
  ·have hk1 : (k : Int) < (L.length : Int) := by omega
   obtain ⟨b, off, r, rfl, hbl, hC, hv⟩ := (H.out.below hb).at hlt; have CV := mh (refone_any d r L[k] _ (hv.below (balloc mle (brf _ _) (.cells (sCells r).toArray 101))) (by rw [hv.nm]; exact HZ.out _ (List.getElem_mem hlt)) (HCT.out _ (List.getElem_mem hlt))); have RN := mh hv.nm; have RU := mh hv.num; obtain ⟨c0, c1, c2, c3, c4, c5, c6, c7, c8, c9⟩ := hC; obtain ⟨num, nm, ⟨o, tn, tm, tp, tl, tc⟩, bp, bn, bc, least, ex, needs⟩ := r; simp only at c0 c1 c2 c3 c4 c5 c6 c7 c8 c9 RN RU; simp only [sCells] at CV; have HBA := mh (balloc mle HB.out (.cells #[I O num, .string nm, I O o, I O tn, I O tm, .slice tp tl tc, .slice bp bn bc, I O least, I O ex, .bool needs] 101)); obtain ⟨v, ev⟩ : ∃ v, one17 L[k] = v := ⟨_, rfl⟩; have EV := mh ev; rw [ev] at CV; clear ha hb hv ev
   by_cases hv0 : v = 0
   ·subst hv0
    have E6 := mh (fun (h : twice L k L[k] = true) => (show cv = ((k : Int), 6) from by rw [← ECV.out, chk_A h16 hlt HAL.out (by rw [errA_twice hlt EV.out, if_pos h]; decide), errA_twice hlt EV.out, if_pos h])); have E0 := mh (fun (h : twice L k L[k] = false) => (show errA L k = 0 from by rw [errA_twice hlt EV.out, if_neg (by rw [h]; decide)])); have hkc : (k : Int) ≤ (cap : Int) := by omega
    go_wp2_with (first | (go_at_call 100; (with_reducible refine cmo CV.out ?_); rintro e w1 ⟨rfl, hb1⟩; have HB1 := mh (bstep mle HBA.out hb1); have HZ1 := mh (show wo.heap.size < w1.heap.size from nll (by simp) hb1.size); have V0 := mh (mcell hb1 0); have V1 := mh (mcell hb1 1); clear hb1))
    have HS1 := mh (show wo.heap.size < w1.heap.size from HZ1.out)
    go_loopw [33] (fun i wr => ∃ j : Nat, j ≤ k ∧ i = I O j ∧ (∀ m, m < j → tw L k L[k] m = false) ∧ Below w1.heap.size w1 wr) (fun i _ => k - (intOf i).toNat)
    case atStart => exact ⟨0, Nat.zero_le _, rfl, fun j hj => absurd hj (Nat.not_lt_zero j), brf _ _⟩
    case round =>
     obtain ⟨wi, rfl⟩ : ∃ wi : World, wi = wr := ⟨_, rfl⟩; obtain ⟨j, hj, rfl, ht, hbi⟩ := hrel; have HT := mh ht; have HBI := mh hbi; have hx0 := (hbi.cell (p := ⟨wo.heap.size, 0, none⟩) HS1.out).trans V0.out; have hx1 := (hbi.cell (p := ⟨wo.heap.size, 1, none⟩) HS1.out).trans V1.out; have HIS := mh (nll HS1.out hbi.size)
     by_cases hjk : j < k
     ·have hj0 : (0 : Int) ≤ (j : Int) := inn _
      have hj1 : (j : Int) < (k : Int) := by omega
      have hj2 : (j : Int) < (L.length : Int) := by omega
      obtain ⟨b', off', y, ey, hyl, hY, hyv⟩ := (H.out.below (bstep mle HB1.out hbi)).at (show j < L.length by omega)
      cases ey
      have YN := mh hyv.nm; have YU := mh hyv.num; obtain ⟨y0, y1, y2, y3, y4, y5, y6, y7, y8, y9⟩ := hY; obtain ⟨ynum, ynm, ⟨yo, ytn, ytm, ytp, ytl, ytc⟩, ybp, ybn, ybc, yleast, yex, yneeds⟩ := y; simp only at y0 y1 y2 y3 y4 y5 y6 y7 y8 y9 YN YU; have HBJ := mh (balloc mle hbi (.cells #[I O ynum, .string ynm, I O yo, I O ytn, I O ytm, .slice ytp ytl ytc, .slice ybp ybn ybc, I O yleast, I O yex, .bool yneeds] 101)); have gx0 : (wi.alloc (.cells #[I O ynum, .string ynm, I O yo, I O ytn, I O ytm, .slice ytp ytl ytc, .slice ybp ybn ybc, I O yleast, I O yex, .bool yneeds] 101)).cell? ⟨wo.heap.size, 0, none⟩ = some (I O num) := (World.cell?_alloc_past _ _ _ HIS.out).trans hx0; have gx1 : (wi.alloc (.cells #[I O ynum, .string ynm, I O yo, I O ytn, I O ytm, .slice ytp ytl ytc, .slice ybp ybn ybc, I O yleast, I O yex, .bool yneeds] 101)).cell? ⟨wo.heap.size, 1, none⟩ = some (.string nm) := (World.cell?_alloc_past _ _ _ HIS.out).trans hx1; have TW := mh (tw_at (L := L) (i := k) (s := L[k]) (show j < L.length by omega)); obtain ⟨nb, enb⟩ : ∃ x, (ynm.toList == nm.toList) = x := ⟨_, rfl⟩; have ENB := mh (show nmIs L[k].nm L[j] = nb from by rw [← enb, bytes_eq, YN.out, RN.out]; rfl); have hwi : IntKind.i64.wrap ((k : Int) - 1) = (k : Int) - 1 := by rw [IntKind.wrap_i64]; omega
      clear ht hbi hyv
      cases nb
      ·have LST := mh (fun (z : Bool) (hz : (decide (j + 1 = k) && decide (num ≤ ynum)) = z) => show tw L k L[k] j = z from by rw [TW.out, ENB.out, Bool.false_or, ← RU.out, ← YU.out]; exact hz)
       by_cases hjl : j + 1 = k
       ·have g1 : ((j : Int) == (k : Int) - 1) = true := beq_iff_eq.2 (by omega)
        by_cases hle : num ≤ ynum
        ·have d1 : decide (num ≤ ynum) = true := dqt hle
         have HV := mh (E6.out (twice_yes (by omega) hjk (LST.out true (by rw [dqt hjl, d1]; rfl)))); clear hle hjl
         go_wp2
         go_ret2
         exact ⟨by rw [HV.out]; rfl, bstep mle HB1.out HBJ.out⟩
        ·have d1 : decide (num ≤ ynum) = false := dqf hle
         have HV := mh (LST.out false (by rw [d1, Bool.and_false])); clear hle hjl
         go_wp2
         go_roundw
         case rel => exact ⟨j + 1, by omega, by go_num, fun m hm => by
          by_cases e : m = j
          ·subst e; exact HV.out
          ·exact HT.out m (by omega), HBJ.out⟩
         case measure => simp [intOf]; omega
       ·have g1 : ((j : Int) == (k : Int) - 1) = false := beq_eq_false_iff_ne.2 (by omega)
        have HV := mh (LST.out false (by rw [dqf hjl, Bool.false_and])); clear hjl
        go_wp2
        go_roundw
        case rel => exact ⟨j + 1, by omega, by go_num, fun m hm => by
         by_cases e : m = j
         ·subst e; exact HV.out
         ·exact HT.out m (by omega), HBJ.out⟩
        case measure => simp [intOf]; omega
      ·have HV := mh (E6.out (twice_yes (by omega) hjk (by rw [TW.out, ENB.out, Bool.true_or])))
       go_wp2
       go_ret2
       exact ⟨by rw [HV.out]; rfl, bstep mle HB1.out HBJ.out⟩
     ·obtain rfl : j = k := by omega
      have HV := mh (E0.out (twice_no (by omega) HT.out)); clear ht hbi
      go_wp2
      go_roundw
      case rel => exact ⟨j + 1, by omega, by go_num, fun m hm => by
       by_cases e : m = j
       ·subst e; exact HV.out
       ·exact HAL.out m (by omega), bstep mle HB1.out HBI.out⟩
      case measure => simp [intOf]; omega
   ·have HV := mh (show cv = ((k : Int), v) from by rw [← ECV.out, chk_A h16 hlt HAL.out (by rw [errA_one hlt (by rw [EV.out]; exact hv0), EV.out]; exact hv0), errA_one hlt (by rw [EV.out]; exact hv0), EV.out])
    go_wp2_with (first | (go_at_call 100; (with_reducible refine cmo CV.out ?_); rintro e w1 ⟨rfl, hb1⟩; have HB1 := mh (bstep mle HBA.out hb1); have HZ1 := mh (show wo.heap.size < w1.heap.size from nll (by simp) hb1.size); have V0 := mh (mcell hb1 0); have V1 := mh (mcell hb1 1); clear hb1))
    go_ret2
    exact ⟨by rw [HV.out]; rfl, HB1.out⟩
  ·obtain rfl : k = L.length := by omega
   clear ha hb; have HBO := HB
   go_wp2
   go_loopw [61] (fun i wr => ∃ k : Nat, k ≤ L.length ∧ i = I O k ∧ (∀ j, j < k → errB L j = 0) ∧ Below w.heap.size w wr) (fun i _ => L.length - (intOf i).toNat)
   case atStart => exact ⟨0, Nat.zero_le _, rfl, fun j hj => absurd hj (Nat.not_lt_zero j), HBO.out⟩
   case round =>
    obtain ⟨wp, rfl⟩ : ∃ wp : World, wp = wr := ⟨_, rfl⟩; obtain ⟨k, hk, rfl, ha, hb⟩ := hrel; have HBL := mh ha; have HC := mh hb; have hk0' : (0 : Int) ≤ (k : Int) := inn _
    by_cases hlt : k < L.length
    ·have hk1 : (k : Int) < (L.length : Int) := by omega
     obtain ⟨b, off, r, rfl, hbl, hCc, hv⟩ := (H.out.below hb).at hlt; have HN := errA_num hlt (HAL.out k hlt); have RU := mh hv.num; have RE := mh hv.ex; obtain ⟨c0, c1, c2, c3, c4, c5, c6, c7, c8, c9⟩ := hCc; obtain ⟨num, nm, ⟨o, tn, tm, tp, tl, tc⟩, bp, bn, bc, least, ex, needs⟩ := r; simp only at c0 c1 c2 c3 c4 c5 c6 c7 c8 c9 RU RE; have HBA := mh (balloc mle HC.out (.cells #[I O num, .string nm, I O o, I O tn, I O tm, .slice tp tl tc, .slice bp bn bc, I O least, I O ex, .bool needs] 101)); have ER := mh (errB_at hlt); obtain ⟨s, es⟩ : ∃ s, L[k] = s := ⟨_, rfl⟩; have h0 : 0 ≤ num := by rw [RU.out]; exact HN.1
     have h15 : num ≤ 15 := by rw [RU.out]; exact HN.2
     have RU2 := mh (show num = s.num from es ▸ RU.out); have RE2 := mh (show ex = s.ex from es ▸ RE.out); rw [es] at ER; clear ha hb hv HN es RU RE
     go_wp2_with (fail)
     obtain ⟨W1, eW1⟩ : ∃ W : World, W = wp.alloc (.cells #[I O num, .string nm, I O o, I O tn, I O tm, .slice tp tl tc, .slice bp bn bc, I O least, I O ex, .bool needs] 101) := ⟨_, rfl⟩; have HS1 := mh (show wp.heap.size < W1.heap.size by rw [eW1]; simp); have V0 := mh (show W1.cell? ⟨wp.heap.size, 0, none⟩ = some (I O num) from by rw [eW1]; exact cwn _ _ _ 0); have V5 := mh (show W1.cell? ⟨wp.heap.size, 8, none⟩ = some (I O ex) from by rw [eW1]; exact cwn _ _ _ 8); have HB1 := mh (show Below w.heap.size w W1 from by rw [eW1]; exact HBA.out); rw [← eW1]; clear eW1
     go_loopw [11] (fun i wr => ∃ n : Nat, n ≤ 16 ∧ i = I O n ∧ (List.range n).all (mutN L s) = true ∧ Below W1.heap.size W1 wr) (fun i _ => 16 - (intOf i).toNat)
     case atStart => exact ⟨0, Nat.zero_le _, rfl, rfl, brf _ _⟩
     case round =>
      obtain ⟨wi, rfl⟩ : ∃ wi : World, wi = wr := ⟨_, rfl⟩; obtain ⟨n, hn, rfl, hm, hbi⟩ := hrel; have HM := mh hm; have HBI := mh hbi; have HBW := mh (bstep mle HB1.out hbi); have hx0 := (hbi.cell (p := ⟨wp.heap.size, 0, none⟩) HS1.out).trans V0.out; have hx8 := (hbi.cell (p := ⟨wp.heap.size, 8, none⟩) HS1.out).trans V5.out; have HSZ := mh (nll HS1.out hbi.size); obtain ⟨i, ei⟩ : ∃ i : Int, (n : Int) = i := ⟨_, rfl⟩; have EI := mh ei; have hi0 : (0 : Int) ≤ i := by omega
      rw [ei]
      by_cases hlt2 : n < 16
      ·have hi1 : i < 16 := by omega
       have hi2 : i ≤ 15 := by omega
       cases eb : bitB ex i
       ·have EB : (bits BinOp.and IntKind.i64 (ex / 2 ^ i.toNat) 1 == 0) = true := by rw [bit_zero, eb]; rfl
        have HM2 := mh (show (List.range (n + 1)).all (mutN L s) = true by rw [all_range_succ, HM.out, mut_zero (by rw [← RE2.out, EI.out]; exact eb)]; rfl); clear hm hbi eb ei
        go_wp2
        go_roundw
        case rel => exact ⟨n + 1, by omega, by rw [← EI.out]; go_num, HM2.out, HBI.out⟩
        case measure => rw [← EI.out]; simp [intOf]; omega
       ·have EB : (bits BinOp.and IntKind.i64 (ex / 2 ^ i.toNat) 1 == 0) = false := by rw [bit_zero, eb]; rfl
        have EBH := mh (show bitB s.ex n = true by rw [← RE2.out, EI.out]; exact eb); have CF := mh (reffind17_any d (some ⟨b, off, none⟩) L cap i wi (H.out.below HBW.out)); have FG := mh (find17_ge L i); obtain ⟨f, ef⟩ : ∃ f, find17 L i = f := ⟨_, rfl⟩; rw [ef] at CF FG; have EF := mh (show find17 L n = f by rw [EI.out]; exact ef); have BAD := mh (fun (h : mutN L s n = false) => show cv = ((k : Int), 17) from by rw [← ECV.out, chk_B h16 HAL.out hlt HBL.out (by rw [ER.out, mut_bad hlt2 h]; decide)]); clear hm hbi eb ei ef
        rcases Int.lt_or_le f 0 with hf | hf
        ·have HV := mh (BAD.out (mut_none EBH.out (by rw [EF.out]; exact hf)))
         have d1 : decide (f < 0) = true := dqt hf; clear hf
         go_wp2_with (first | (go_at_call 101; (with_reducible refine cmo CF.out ?_); rintro e w1 ⟨rfl, hb1⟩; have HB2 := mh (bstep mle HBW.out hb1); clear hb1))
         go_quiet (fail)
         go_wp2
         go_ret2
         exact ⟨by rw [HV.out]; rfl, HB2.out.trans ((drewN_below _ _).mono HB2.out.size)⟩
        ·have d1 : decide (f < 0) = false := by rw [decide_eq_false_iff_not]; omega
         obtain ⟨j, rfl⟩ := Int.eq_ofNat_of_zero_le hf; have hj : j < L.length := by have := FG.out; omega
         have MS := mh (mut_some EBH.out EF.out hj); obtain ⟨b', off', x, ex', hbl2, hC, hv⟩ := (H.out.below HBW.out).at hj
         cases ex'
         have C8 := mh hC.c8; have hxe := hv.ex; have hj0' : (0 : Int) ≤ (j : Int) := inn _; have hj1' : (j : Int) < (L.length : Int) := by omega
         obtain ⟨xe, exe⟩ : ∃ xe, x.ex = xe := ⟨_, rfl⟩; rw [exe] at C8 hxe; have EN := RU2.out
         cases eb2 : bitB xe num
         ·have EB2 : (bits BinOp.and IntKind.i64 (xe / 2 ^ num.toNat) 1 == 0) = true := by rw [bit_zero, eb2]; rfl
          have HV := mh (BAD.out (by rw [MS.out, ← hxe, ← EN]; exact eb2)); clear hf hC hv eb2 hxe exe EN
          go_wp2_with (first | (go_at_call 101; (with_reducible refine cmo CF.out ?_); rintro e w1 ⟨rfl, hb1⟩; have HB2 := mh (bstep mle HBW.out hb1); have HB3 := mh (bstep mle HBI.out hb1); have hj0 := (hb1.cell (p := ⟨wp.heap.size, 0, none⟩) HSZ.out).trans hx0; have hx8' := (hb1.cell (p := ⟨b, off + j * 10 + 8, none⟩) hbl2).trans C8.out; clear hb1))
          go_quiet (fail)
          go_wp2
          go_ret2
          exact ⟨by rw [HV.out]; rfl, HB2.out.trans ((drewN_below _ _).mono HB2.out.size)⟩
         ·have EB2 : (bits BinOp.and IntKind.i64 (xe / 2 ^ num.toNat) 1 == 0) = false := by rw [bit_zero, eb2]; rfl
          have HM2 := mh (show (List.range (n + 1)).all (mutN L s) = true by rw [all_range_succ, HM.out, MS.out, ← hxe, ← EN, eb2]; rfl); clear hf hC hv eb2 hxe exe EN
          go_wp2_with (first | (go_at_call 101; (with_reducible refine cmo CF.out ?_); rintro e w1 ⟨rfl, hb1⟩; have HB2 := mh (bstep mle HBW.out hb1); have HB3 := mh (bstep mle HBI.out hb1); have hj0 := (hb1.cell (p := ⟨wp.heap.size, 0, none⟩) HSZ.out).trans hx0; have hx8' := (hb1.cell (p := ⟨b, off + j * 10 + 8, none⟩) hbl2).trans C8.out; clear hb1))
          go_quiet (fail)
          go_wp2
          go_roundw
          case rel => exact ⟨n + 1, by omega, by rw [← EI.out]; go_num, HM2.out, HB3.out.trans ((drewN_below _ _).mono HB3.out.size)⟩
          case measure => rw [← EI.out]; simp [intOf]; omega
      ·obtain rfl : n = 16 := by omega
       have HV := mh (show errB L k = 0 from by rw [ER.out, if_pos (show mutual17 L s = true from hm)]); have hi1 : i = 16 := ei.symm; clear hm hbi ei; subst hi1
       go_wp2
       go_roundw
       case rel => exact ⟨k + 1, by omega, by go_num, fun j hj => by
        by_cases e : j = k
        ·subst e; exact HV.out
        ·exact HBL.out j (by omega), HBW.out⟩
       case measure => simp [intOf]; omega
    ·obtain rfl : k = L.length := by omega
     have HV := mh (show cv = (-1, 0) from ECV.out ▸ chk_ok h16 HAL.out HBL.out); clear ha hb
     go_wp2
     go_ret2
     exact ⟨by rw [HV.out]; rfl, HC.out⟩
theorem fst_ne {f : Nat → Int} {n k : Nat} (h : fst f n = some k) : k < n ∧ f k ≠ 0 := by
 unfold fst at h; have h1 := List.mem_of_find?_eq_some h; have h2 := List.find?_some h; exact ⟨List.mem_range.1 h1, by simpa using h2⟩
theorem fst_no {f : Nat → Int} {n : Nat} (h : fst f n = none) : ∀ j, j < n → f j = 0 := by
 intro j hj; unfold fst at h; rw [List.find?_eq_none] at h
 simpa using h j (List.mem_range.2 hj)
theorem chk_fine {L : List Sch} (h : (chk17 L).2 = 0) : chk17 L = (-1, 0) ∧ L.length ≤ 16 ∧ (∀ j, j < L.length → errA L j = 0) ∧ (∀ j, j < L.length → errB L j = 0) := by
 by_cases h16 : 16 < L.length
 ·rw [chk_long h16] at h; cases h
 cases hA : fst (errA L) L.length with
 | some i =>
   have e : chk17 L = ((i : Int), errA L i) := by unfold chk17; rw [if_neg h16, hA]
   rw [e] at h; exact absurd h (fst_ne hA).2
 | none =>
   cases hB : fst (errB L) L.length with
   | some i =>
     have e : chk17 L = ((i : Int), 17) := by unfold chk17; rw [if_neg h16, hA]; simp only; rw [hB]
     rw [e] at h
     cases h
   | none => exact ⟨chk_ok h16 (fst_no hA) (fst_no hB), by omega, fst_no hA, fst_no hB⟩
theorem one_brk (W : World) (b : Brk) : Recs SBk (W.alloc (.cells #[I O b.up, I O b.rate] 98)) (some ⟨W.heap.size, 0, none⟩) [b] := Recs.lit (S := SBk) W 98 [b] (by show 1 ≤ _; unfold maxLen; omega)
def NewQ (B : Nat) : Nat → Prop := fun b => B ≤ b
def put4 (W : World) (b : Nat) (x0 x1 x2 x3 : Value) : World := (((W.setCell ⟨b, 0, none⟩ x0).setCell ⟨b, 1, none⟩ x1).setCell ⟨b, 2, none⟩ x2).setCell ⟨b, 3, none⟩ x3
theorem put4_block (W : World) (b : Nat) (x0 x1 x2 x3 : Value) : (put4 W b x0 x1 x2 x3).heap.size = W.heap.size ∧ ∀ k, k ≠ b → (put4 W b x0 x1 x2 x3).heap[k]? = W.heap[k]? := by
 refine ⟨by simp [put4, World.setCell], fun k hk => ?_⟩
 unfold put4
 simp [World.setCell, Array.getElem?_modify, Ne.symm hk]
theorem put4_below {B b : Nat} {W : World} (hb : B ≤ b) (x0 x1 x2 x3 : Value) : Below B W (put4 W b x0 x1 x2 x3) :=
 ((((brf B W).setCell hb _).setCell hb _).setCell hb _).setCell hb _
theorem put4_but {rd : Nat} {w W : World} (hb : But rd w W) (x0 x1 x2 x3 : Value) : But rd w (put4 W w.heap.size x0 x1 x2 x3) :=
 hb.stpB (put4_below mle x0 x1 x2 x3) mle
end Go.Proofs.YtmlfcpglhipjgaaGreat
