/-
  PACKED (pack8.py): what is needed of the texts Xa, Xb, Xc, Xk.
-/
import Derived.Test.YtmlfcpglhipjgaaGreatY0
import Derived.Test.YtmlfcpglhipjgaaGreatY1
import Derived.Test.YtmlfcpglhipjgaaGreatY6
import Derived.Test.YtmlfcpglhipjgaaGreatY13
import Derived.Test.YtmlfcpglhipjgaaGreatY14
import Derived.Test.YtmlfcpglhipjgaaGreatY17
import Derived.Test.YtmlfcpglhipjgaaGreatY19
import Derived.Test.YtmlfcpglhipjgaaGreatY24
import Derived.Test.YtmlfcpglhipjgaaGreatY29
import Derived.Test.YtmlfcpglhipjgaaGreatY30
set_option maxRecDepth 100000
set_option maxHeartbeats 8000000
namespace Go.Proofs.YtmlfcpglhipjgaaGreat.Sc
end Go.Proofs.YtmlfcpglhipjgaaGreat.Sc
namespace Go.Proofs.YtmlfcpglhipjgaaGreat.As
end Go.Proofs.YtmlfcpglhipjgaaGreat.As
namespace Go.Proofs.YtmlfcpglhipjgaaGreat
open Go.RowKit
namespace Re
def low (n d : Nat) : Nat × Nat := (n / Nat.gcd n d, d / Nat.gcd n d)
end Re
theorem lowest_any (N D : Nat) (w : World) (hN : (N : Int) ≤ 9223372036854775807) (hD : 1 ≤ D) (hD2 : (D : Int) ≤ 9223372036854775807) :
  Calls Tryz.prog 121 #[.int .i64 (N : Int), .int .i64 (D : Int)] w fun e w' => e = .returned (.tuple #[.int .i64 ((Re.low N D).1 : Int), .int .i64 ((Re.low N D).2 : Int)]) ∧ Below w.heap.size w w' := by
 unfold Re.low; have hN0 : (0 : Int) ≤ (N : Int) := inn _; have hD0 : (0 : Int) ≤ (D : Int) := inn _; obtain ⟨G, eG⟩ : ∃ g, Nat.gcd N D = g := ⟨_, rfl⟩; have hG : 1 ≤ G := by rw [← eG]; exact Nat.gcd_pos_of_pos_right _ (by omega)
 rw [eG]
 go_enter Tryz.func121, Tryz.ntmps121
 go_wp2
 go_loopw [6, 7] (fun a b W => ∃ A B : Nat, a = .int .i64 A ∧ b = .int .i64 B ∧ Nat.gcd A B = G ∧ (A : Int) ≤ 9223372036854775807 ∧ (B : Int) ≤ 9223372036854775807 ∧ Below w.heap.size w W) (fun _ b _ => (intOf b).toNat)
 case atStart => exact ⟨N, D, rfl, rfl, eG, hN, hD2, brf _ _⟩
 case round =>
  obtain ⟨A, B, rfl, rfl, hg, hA, hB, hb⟩ := hrel; have hA0 : (0 : Int) ≤ (A : Int) := inn _; have hB0 : (0 : Int) ≤ (B : Int) := inn _; have HB := mh hb; clear hb
  rcases Nat.eq_zero_or_pos B with hz | hz
  ·subst hz
   rw [Nat.gcd_zero_right] at hg; subst hg; have hA1 : (A : Int) ≠ 0 := by omega
   have wl : ∀ x : Nat, x ≤ 9223372036854775807 → wrap64 (x : Int) = (x : Int) := fun x h => IntWalk.wrap64_in _ ⟨by omega, by omega⟩
   have m1 : N / A ≤ N := Nat.div_le_self N A; have m2 : D / A ≤ D := Nat.div_le_self D A; have w1 : wrap64 ((N : Int) / (A : Int)) = ((N / A : Nat) : Int) := by rw [← Int.natCast_ediv]; exact wl _ (Nat.le_trans m1 (by omega))
   have w2 : wrap64 ((D : Int) / (A : Int)) = ((D / A : Nat) : Int) := by rw [← Int.natCast_ediv]; exact wl _ (Nat.le_trans m2 (by omega))
   rw [show ((0 : Nat) : Int) = 0 from rfl]
   go_wp2
   go_region
   go_wp2
   go_ret2
   refine ⟨?_, HB.out.drew⟩
   show Ending.returned (.tuple #[.int .i64 (wrap64 ((N : Int) / (A : Int))), .int .i64 (wrap64 ((D : Int) / (A : Int)))]) = _
   rw [w1, w2]
  ·have hB1 : (B : Int) ≠ 0 := by omega
   have hBn : ((B : Int) == 0) = false := by simpa using hB1
   have hBm : ((B : Int) != 0) = true := by simpa using hB1
   have q1 : (A : Int).tmod (B : Int) = ((A % B : Nat) : Int) := by rw [Int.tmod_eq_emod_of_nonneg hA0]; exact (Int.natCast_emod A B).symm
   have hr : A % B < B := Nat.mod_lt _ hz
   go_wp2
   go_region
   go_wp2
   go_roundw
   case rel => exact ⟨B, A % B, rfl, by rw [Int.natCast_emod], by rw [Nat.gcd_comm, ← Nat.gcd_rec, Nat.gcd_comm]; exact hg, hB, by omega, HB.out.drew⟩
   case measure => simp [intOf]; omega
end Go.Proofs.YtmlfcpglhipjgaaGreat
namespace Go.Proofs.YtmlfcpglhipjgaaGreat
open Go.RowKit Sc As
namespace Re
def fac (l : YLaw) (F : List FarmF) : Nat × Nat := low (En.factor l.env l.unit (cappeds (assess l F))).1.toNat (En.factor l.env l.unit (cappeds (assess l F))).2.toNat
def dvd (l : YLaw) (F : List FarmF) : Bool := En.scaled l.env l.unit (cappeds (assess l F))
theorem err0 {l : YLaw} {F : List FarmF} (h0 : assErr l F = 0) : En.err l.env l.unit (cappeds (assess l F)) = 0 := by
 rw [(assess_at h0).2.1]; unfold assErr at h0
 by_cases h1 : chkF l F ≠ 0
 ·rw [if_pos h1] at h0; omega
 rw [if_neg h1] at h0
 by_cases h2 : allErr l F ≠ 0
 ·rw [if_pos h2] at h0; omega
 rw [if_neg h2] at h0
 by_cases h3 : 64 < (allAw l F).length
 ·rw [if_pos h3] at h0; omega
 rw [if_neg h3] at h0; exact h0
theorem fac_bd {e u : Int} {L : List Int} (h : En.err e u L = 0) : ∃ N D : Nat, En.factor e u L = ((N : Int), (D : Int)) ∧ 1 ≤ D ∧ (N : Int) ≤ 9223372036854775807 ∧ (D : Int) ≤ 9223372036854775807 ∧ N ≤ D := by
 have G := En.good_of h; have ub := usum_bd (u := u) G.u0 (xs := L) fun x hx => G.all x hx
 have hl := G.len; unfold En.factor; rw [if_pos h]
 by_cases hq : e / u < En.usum u L
 ·rw [if_pos hq]
  have h0 : 0 ≤ e / u := Int.ediv_nonneg G.e0 (by have := G.u0; omega); refine ⟨(e / u).toNat, (En.usum u L).toNat, ?_, ?_, ?_, ?_, ?_⟩
  ·rw [Int.toNat_of_nonneg h0, Int.toNat_of_nonneg (by omega)]
  all_goals omega
 ·rw [if_neg hq]
  exact ⟨1, 1, rfl, by omega, by omega, by omega, by omega⟩
end Re
def Re.SdG (l : YLaw) (F : List FarmF) (p : Option Addr) (cap : Nat) (w : World) (e : Ending) (w' : World) : Prop :=
 (assErr l F ≠ 0 ∧ e = .returned (.tuple #[.agg #[.slice none 0 0, .slice none 0 0, .int .i64 0, .int .i64 0, .bool false], .int .i64 (assErr l F)]) ∧ Below w.heap.size w w') ∨
 (assErr l F = 0 ∧ ∃ q c, e = .returned (.tuple #[.agg #[.slice p F.length cap, .slice q (assess l F).length c, .int .i64 ((Re.fac l F).1 : Int), .int .i64 ((Re.fac l F).2 : Int), .bool (Re.dvd l F)], .int .i64 0]) ∧ OwnR SA w' 60 w.heap.size (.slice q (assess l F).length c) (assess l F) ∧ Below w.heap.size w w')
theorem side_any {Q Q2 : Nat → Prop} (d : Nat) (r : RY) (l : YLaw) (p : Option Addr) (F : List FarmF) (cap : Nat) (w : World) (h : YV Q w d r l) (hF : FsAt Q2 w p F) :
  Calls Tryz.prog 82 #[.agg (yCells r).toArray, .slice p F.length cap] w (Re.SdG l F p cap w) := by
 have AS := mh (fun (W : World) (hb : Below w.heap.size w W) => assess34_any d r l p F cap W (h.below hb) (hF.below hb)); have EV := h.env; have UN := h.unit; obtain ⟨sp, sn, sc, tp, tn, tc, ldue, llast, lmille, gp, gn, gc, cp, ev, un, wd⟩ := r; simp only at EV UN; subst EV; subst UN; unfold AsG at AS; simp only [yCells] at AS ⊢; obtain ⟨gy, egy⟩ : ∃ g, w.heap.size = g := ⟨_, rfl⟩; have hA1 := (brf w.heap.size w).alloc mle (.cells #[.slice sp sn sc, .slice tp tn tc, .int .i64 ldue, .int .i64 llast, .int .i64 lmille, .slice gp gn gc, .int .i64 cp, .int .i64 l.env, .int .i64 l.unit, .int .i64 wd] 29); have B1 := Blk.new w #[.slice sp sn sc, .slice tp tn tc, .int .i64 ldue, .int .i64 llast, .int .i64 lmille, .slice gp gn gc, .int .i64 cp, .int .i64 l.env, .int .i64 l.unit, .int .i64 wd] 29; have hA2 := (brf (w.alloc (.cells #[.slice sp sn sc, .slice tp tn tc, .int .i64 ldue, .int .i64 llast, .int .i64 lmille, .slice gp gn gc, .int .i64 cp, .int .i64 l.env, .int .i64 l.unit, .int .i64 wd] 29)).heap.size (w.alloc (.cells #[.slice sp sn sc, .slice tp tn tc, .int .i64 ldue, .int .i64 llast, .int .i64 lmille, .slice gp gn gc, .int .i64 cp, .int .i64 l.env, .int .i64 l.unit, .int .i64 wd] 29))).alloc mle (.cells #[.slice none 0 0, .slice none 0 0, .int .i64 0, .int .i64 0, .bool false] 140); have B2 := mh (Blk.new (w.alloc (.cells #[.slice sp sn sc, .slice tp tn tc, .int .i64 ldue, .int .i64 llast, .int .i64 lmille, .slice gp gn gc, .int .i64 cp, .int .i64 l.env, .int .i64 l.unit, .int .i64 wd] 29)) #[.slice none 0 0, .slice none 0 0, .int .i64 0, .int .i64 0, .bool false] 140); have hs1 : (w.alloc (.cells #[.slice sp sn sc, .slice tp tn tc, .int .i64 ldue, .int .i64 llast, .int .i64 lmille, .slice gp gn gc, .int .i64 cp, .int .i64 l.env, .int .i64 l.unit, .int .i64 wd] 29)).heap.size = gy + 1 := by rw [World.size_alloc, egy]
 have B1' := mh (B1.below hA2); have HB := mh (hA1.trans (hA2.mono hA1.size)); rw [egy] at B1'; rw [hs1] at B2; clear h hF hA1 hA2 B1; obtain ⟨E, eE⟩ : ∃ E, assErr l F = E := ⟨_, rfl⟩; simp only [eE] at AS
 go_enter Tryz.func82, Tryz.ntmps82
 go_wp2_with fail
 clear hs1; generalize (w.alloc (.cells #[.slice sp sn sc, .slice tp tn tc, .int .i64 ldue, .int .i64 llast, .int .i64 lmille, .slice gp gn gc, .int .i64 cp, .int .i64 l.env, .int .i64 l.unit, .int .i64 wd] 29)).alloc (.cells #[.slice none 0 0, .slice none 0 0, .int .i64 0, .int .i64 0, .bool false] 140) = w0 at *; (with_reducible refine cmo (AS.out w0 HB.out) ?_); rintro e w1 ⟨va, rfl, hoa, hb1⟩; have Y1 := mh (B1'.out.below hb1); have S1 := mh (B2.out.below hb1); have HB1 := mh (HB.out.trans (hb1.mono HB.out.size)); have HG := mh (show gy + 1 < w0.heap.size from B2.out.lt); have OA := mh (hoa.mono HB.out.size); have OB := mh (show ∀ g, va.ownBlock = some g → gy + 1 < g ∧ g < w1.heap.size from fun g hg => ⟨nll HG.out (hoa.lt hg).1, (hoa.lt hg).2⟩); have EE := mh eE; clear hb1 hoa B1' B2 AS eE; have s0 := S1.out.cell 0; have s1 := S1.out.cell 1; have s2 := S1.out.cell 2; have s3 := S1.out.cell 3; have s4 := S1.out.cell 4; have f0 := S1.out.fr 0; have f1 := S1.out.fr 1; have f2 := S1.out.fr 2; have f3 := S1.out.fr 3; have f4 := S1.out.fr 4
 by_cases hE : E = 0
 rotate_left
 ·have hne : (E != 0) = true := by simpa using hE
  have HE := mh hE; clear hE
  go_wp2_with fail
  have SS := mh (show Blk (((((w1.setCell ⟨gy + 1, 0, none⟩ (.slice none 0 0)).setCell ⟨gy + 1, 1, none⟩ (.slice none 0 0)).setCell ⟨gy + 1, 2, none⟩ (.int .i64 0)).setCell ⟨gy + 1, 3, none⟩ (.int .i64 0)).setCell ⟨gy + 1, 4, none⟩ (.bool false)) (gy + 1) #[.slice none 0 0, .slice none 0 0, .int .i64 0, .int .i64 0, .bool false] 140 from (((((S1.out.set 0 _).set 1 _).set 2 _).set 3 _).set 4 _)); have BB := mh (show Below w.heap.size w (((((w1.setCell ⟨gy + 1, 0, none⟩ (.slice none 0 0)).setCell ⟨gy + 1, 1, none⟩ (.slice none 0 0)).setCell ⟨gy + 1, 2, none⟩ (.int .i64 0)).setCell ⟨gy + 1, 3, none⟩ (.int .i64 0)).setCell ⟨gy + 1, 4, none⟩ (.bool false)) from (((((HB1.out.setCell (p := ⟨gy + 1, 0, none⟩) (by show _ ≤ gy + 1; omega) _).setCell (p := ⟨gy + 1, 1, none⟩) (by show _ ≤ gy + 1; omega) _).setCell (p := ⟨gy + 1, 2, none⟩) (by show _ ≤ gy + 1; omega) _).setCell (p := ⟨gy + 1, 3, none⟩) (by show _ ≤ gy + 1; omega) _).setCell (p := ⟨gy + 1, 4, none⟩) (by show _ ≤ gy + 1; omega) _)); generalize (((((w1.setCell ⟨gy + 1, 0, none⟩ (.slice none 0 0)).setCell ⟨gy + 1, 1, none⟩ (.slice none 0 0)).setCell ⟨gy + 1, 2, none⟩ (.int .i64 0)).setCell ⟨gy + 1, 3, none⟩ (.int .i64 0)).setCell ⟨gy + 1, 4, none⟩ (.bool false)) = wf at *; have d0 := SS.out.cell 0; have d1 := SS.out.cell 1; have d2 := SS.out.cell 2; have d3 := SS.out.cell 3; have d4 := SS.out.cell 4; exact bodyPost_ret (v := .tuple #[.agg #[.slice none 0 0, .slice none 0 0, .int .i64 0, .int .i64 0, .bool false], .int .i64 E]) (by simp [results, Tryz.results82, go_sem, d0, d1, d2, d3, d4]) rfl (Or.inl ⟨by rw [EE.out]; exact HE.out, by rw [EE.out], BB.out⟩)
 subst hE; have CE := mh (Re.err0 EE.out); obtain ⟨A, eA⟩ : ∃ A, assess l F = A := ⟨_, rfl⟩; obtain ⟨n, en⟩ : ∃ n, A.length = n := ⟨_, rfl⟩; rw [eA] at OA CE; obtain ⟨pa, ca, rfl, -, -, -, -, hra⟩ := OA.out.cut en; have RA := mh hra; have HNA := mh en; have GD := mh (En.good_of CE.out); have hn64 : n ≤ 64 := by have := GD.out.len; unfold cappeds at this; rw [List.length_map, en] at this; exact this
 have EA := mh eA; clear hra en eA
 go_wp2_with fail
 go_loopw [8, 26] (fun cv i W => ∃ k : Nat, k ≤ n ∧ i = .int .i64 k ∧ OwnR SI W 3 w1.heap.size cv (cappeds (A.take k)) ∧ Below w1.heap.size w1 W) (fun _ i _ => n - (intOf i).toNat)
 case atStart => exact ⟨0, Nat.zero_le _, rfl, OwnR.nil _ _ _, brf _ _⟩
 case round =>
  obtain ⟨wp, rfl⟩ : ∃ wp : World, wp = wr := ⟨_, rfl⟩; obtain ⟨k, hk, rfl, hC, hb2⟩ := hrel; have HC := mh hC; have HB2 := mh hb2; have hk0 : (0 : Int) ≤ (k : Int) := inn _; clear hC hb2 s0 s1 s2 s3 s4 f0 f1 f2 f3 f4
  by_cases hlt : k < n
  ·have hk1 : (k : Int) < (n : Int) := by omega
   have hkA : k < A.length := by rw [HNA.out]; exact hlt
   obtain ⟨b, off, rfl, hbl, ⟨c0, c1, c2, c3, c4, c5, c6, c7, c8⟩⟩ := SA_at (RA.out.below HB2.out) hkA
   have ST := mh (show cappeds (A.take (k + 1)) = cappeds (A.take k) ++ [A[k].capped] from by
    rw [tsg hkA]; unfold cappeds; rw [List.map_append]; rfl)
   have HCL := mh (show (cappeds (A.take k)).length ≤ 64 from by unfold cappeds; rw [List.length_map, List.length_take]; omega); obtain ⟨x, ex⟩ : ∃ x, A[k] = x := ⟨_, rfl⟩; rw [ex] at c0 c1 c2 c3 c4 c5 c6 c7 c8 ST; have hbx := (brf wp.heap.size wp).alloc mle (.cells #[.int .i64 x.farm, .int .i64 x.scheme, .int .i64 x.decl, .int .i64 x.det, .int .i64 x.paid, .int .i64 x.rated, .int .i64 x.timely, .int .i64 x.capped, .int .i64 x.due] 60); have HC2 := mh (HC.out.below hbx); have HBX := mh (HB2.out.trans (hbx.mono HB2.out.size)); clear hbl ex hbx
   go_wp2_with (first | (at_builtin; (refine OwnR.append el_int rfl (.tmp 30) (.tmp 33) rfl w1.heap.size _ (cappeds (A.take k)) x.capped #[.int .i64 x.capped] rfl HC2.out rfl (by simp [Act.eval]) HBX.out.size (by have := HCL.out; omega) (by decide) ?_); intro v5 w5 hO5 hap5; have HO5 := mh hO5; have HB5 := mh (HBX.out.trans hap5.below); clear hO5 hap5) | fail)
   go_roundw
   case rel => exact ⟨k + 1, by omega, by go_num, by rw [ST.out]; exact HO5.out, HB5.out⟩
   case measure => simp [intOf]; omega
  ·obtain rfl : k = n := by omega
   have HC' := mh (show OwnR SI wp 3 w1.heap.size _ (cappeds A) from by have := HC.out; rw [List.take_of_length_le (by rw [HNA.out]; exact Nat.le_refl _)] at this; exact this); have CL := mh (show (cappeds A).length = k from by unfold cappeds; rw [List.length_map, HNA.out]); obtain ⟨pc, cc, rfl, -, -, -, -, hrc⟩ := HC'.out.cut CL.out; have hI := hrc.ints; obtain ⟨N, D, hf, hD1, hN2, hD2, -⟩ := Re.fac_bd CE.out; have FC := mh (factor_any l.env l.unit pc (cappeds A) cc wp hI); have SCD := mh (fun (W : World) (hb : Below wp.heap.size wp W) => scaled_any l.env l.unit pc (cappeds A) cc W (hI.below hb)); have LW := mh (fun (W : World) => lowest_any N D W hN2 hD1 hD2); rw [hf, CE.out, CL.out] at FC; rw [CL.out] at SCD; simp only at FC; have EF := mh (show Re.fac l F = Re.low N D from by unfold Re.fac; rw [EA.out, hf]; rfl); have ED := mh (show Re.dvd l F = En.scaled l.env l.unit (cappeds A) from by unfold Re.dvd; rw [EA.out]); have YP := mh (Y1.out.below HB2.out); have y7 := YP.out.cell 7; have y8 := YP.out.cell 8; clear hrc hI hf hD1 hN2 hD2 HC HC' hk hlt hk0
   go_wp2_with fail
   (with_reducible refine cmo FC.out ?_); rintro e w6 ⟨rfl, hb6⟩; have HB6 := mh hb6; have YP6 := mh (YP.out.below hb6); have y7b := YP6.out.cell 7; have y8b := YP6.out.cell 8; clear hb6 y7 y8
   go_wp2_with fail
   (with_reducible refine cmo (SCD.out w6 HB6.out) ?_); rintro e w7 ⟨rfl, hb7⟩; have HB7 := mh (HB6.out.trans (hb7.mono HB6.out.size)); clear hb7 y7b y8b; obtain ⟨gx, egx⟩ : ∃ g, w7.heap.size = g := ⟨_, rfl⟩; have hAx := (brf w7.heap.size w7).alloc mle (.cells #[.slice p F.length cap, .slice pa k ca, .int .i64 0, .int .i64 0, .bool (En.scaled l.env l.unit (cappeds A))] 140); have X0 := mh (egx ▸ Blk.new w7 #[.slice p F.length cap, .slice pa k ca, .int .i64 0, .int .i64 0, .bool (En.scaled l.env l.unit (cappeds A))] 140); have S7 := mh (((S1.out.below HB2.out).below HB7.out).below hAx); have A7 := mh ((OA.out.below (HB2.out.trans (HB7.out.mono HB2.out.size))).below hAx); have HBX := mh (((HB1.out.trans ((HB2.out.trans (HB7.out.mono HB2.out.size)).mono HB1.out.size))).trans (hAx.mono (Nat.le_trans HB1.out.size (Nat.le_trans HB2.out.size HB7.out.size)))); have HGX := mh (show gy + 1 < gx by have := HG.out; have := HB1.out.size; have := (S1.out.below HB2.out).lt; have := HB7.out.size; omega); clear hAx
   go_wp2_with fail
   generalize w7.alloc (.cells #[.slice p F.length cap, .slice pa k ca, .int .i64 0, .int .i64 0, .bool (En.scaled l.env l.unit (cappeds A))] 140) = w7x at *; (with_reducible refine cmo (LW.out w7x) ?_); rintro e w8 ⟨rfl, hb8⟩; have X8 := mh (X0.out.below hb8); have S8 := mh (S7.out.below hb8); have A8 := mh (A7.out.below hb8); have HBQ := mh (HBX.out.trans (hb8.mono HBX.out.size)); have x0 := X8.out.cell 0; have x1 := X8.out.cell 1; have x2 := X8.out.cell 2; have x3 := X8.out.cell 3; have x4 := X8.out.cell 4; have xf2 := X8.out.fr 2; have xf3 := X8.out.fr 3; have s0 := S8.out.cell 0; have s1 := S8.out.cell 1; have s2 := S8.out.cell 2; have s3 := S8.out.cell 3; have s4 := S8.out.cell 4; have f0 := S8.out.fr 0; have f1 := S8.out.fr 1; have f2 := S8.out.fr 2; have f3 := S8.out.fr 3; have f4 := S8.out.fr 4; have hgx := HGX.out; clear hb8
   go_wp2_with fail
   have SS := mh (show Blk (((((((w8.setCell ⟨gx, 2, none⟩ (.int .i64 ((Re.low N D).1 : Int))).setCell ⟨gx, 3, none⟩ (.int .i64 ((Re.low N D).2 : Int))).setCell ⟨gy + 1, 0, none⟩ (.slice p F.length cap)).setCell ⟨gy + 1, 1, none⟩ (.slice pa k ca)).setCell ⟨gy + 1, 2, none⟩ (.int .i64 ((Re.low N D).1 : Int))).setCell ⟨gy + 1, 3, none⟩ (.int .i64 ((Re.low N D).2 : Int))).setCell ⟨gy + 1, 4, none⟩ (.bool (En.scaled l.env l.unit (cappeds A)))) (gy + 1) #[.slice p F.length cap, .slice pa k ca, .int .i64 ((Re.low N D).1 : Int), .int .i64 ((Re.low N D).2 : Int), .bool (En.scaled l.env l.unit (cappeds A))] 140 from ((((((((S8.out.far (by omega) _).far (by omega) _).set 0 _).set 1 _).set 2 _).set 3 _).set 4 _))); have BB := mh (show Below w.heap.size w (((((((w8.setCell ⟨gx, 2, none⟩ (.int .i64 ((Re.low N D).1 : Int))).setCell ⟨gx, 3, none⟩ (.int .i64 ((Re.low N D).2 : Int))).setCell ⟨gy + 1, 0, none⟩ (.slice p F.length cap)).setCell ⟨gy + 1, 1, none⟩ (.slice pa k ca)).setCell ⟨gy + 1, 2, none⟩ (.int .i64 ((Re.low N D).1 : Int))).setCell ⟨gy + 1, 3, none⟩ (.int .i64 ((Re.low N D).2 : Int))).setCell ⟨gy + 1, 4, none⟩ (.bool (En.scaled l.env l.unit (cappeds A)))) from (((((((HBQ.out.setCell (p := ⟨gx, 2, none⟩) (by show _ ≤ gx; omega) _).setCell (p := ⟨gx, 3, none⟩) (by show _ ≤ gx; omega) _).setCell (p := ⟨gy + 1, 0, none⟩) (by show _ ≤ gy + 1; omega) _).setCell (p := ⟨gy + 1, 1, none⟩) (by show _ ≤ gy + 1; omega) _).setCell (p := ⟨gy + 1, 2, none⟩) (by show _ ≤ gy + 1; omega) _).setCell (p := ⟨gy + 1, 3, none⟩) (by show _ ≤ gy + 1; omega) _).setCell (p := ⟨gy + 1, 4, none⟩) (by show _ ≤ gy + 1; omega) _)); have HSZ := mh (show w1.heap.size ≤ gx from by have := HB2.out.size; have := HB7.out.size; omega)
   have AF := mh (show OwnR SA (((((((w8.setCell ⟨gx, 2, none⟩ (.int .i64 ((Re.low N D).1 : Int))).setCell ⟨gx, 3, none⟩ (.int .i64 ((Re.low N D).2 : Int))).setCell ⟨gy + 1, 0, none⟩ (.slice p F.length cap)).setCell ⟨gy + 1, 1, none⟩ (.slice pa k ca)).setCell ⟨gy + 1, 2, none⟩ (.int .i64 ((Re.low N D).1 : Int))).setCell ⟨gy + 1, 3, none⟩ (.int .i64 ((Re.low N D).2 : Int))).setCell ⟨gy + 1, 4, none⟩ (.bool (En.scaled l.env l.unit (cappeds A)))) 60 w.heap.size (.slice pa k ca) A from by
    have hn1 : (Value.slice pa k ca).ownBlock ≠ some gx := fun e => by have := (OB.out _ e).2; have := HSZ.out; omega
    have hn2 : (Value.slice pa k ca).ownBlock ≠ some (gy + 1) := fun e => by have := (OB.out _ e).1; omega
    exact (((((((A8.out.setOther hn1 (i := 2) _).setOther hn1 (i := 3) _).setOther hn2 (i := 0) _).setOther hn2 (i := 1) _).setOther hn2 (i := 2) _).setOther hn2 (i := 3) _).setOther hn2 (i := 4) _))
   generalize (((((((w8.setCell ⟨gx, 2, none⟩ (.int .i64 ((Re.low N D).1 : Int))).setCell ⟨gx, 3, none⟩ (.int .i64 ((Re.low N D).2 : Int))).setCell ⟨gy + 1, 0, none⟩ (.slice p F.length cap)).setCell ⟨gy + 1, 1, none⟩ (.slice pa k ca)).setCell ⟨gy + 1, 2, none⟩ (.int .i64 ((Re.low N D).1 : Int))).setCell ⟨gy + 1, 3, none⟩ (.int .i64 ((Re.low N D).2 : Int))).setCell ⟨gy + 1, 4, none⟩ (.bool (En.scaled l.env l.unit (cappeds A)))) = wf at *; have d0 := SS.out.cell 0; have d1 := SS.out.cell 1; have d2 := SS.out.cell 2; have d3 := SS.out.cell 3; have d4 := SS.out.cell 4; exact bodyPost_ret (v := .tuple #[.agg #[.slice p F.length cap, .slice pa k ca, .int .i64 ((Re.low N D).1 : Int), .int .i64 ((Re.low N D).2 : Int), .bool (En.scaled l.env l.unit (cappeds A))], .int .i64 0]) (by simp [results, Tryz.results82, go_sem, d0, d1, d2, d3, d4]) rfl (Or.inr ⟨EE.out, pa, ca, by rw [EF.out, ED.out, EA.out, HNA.out], by rw [EA.out, HNA.out]; exact AF.out, BB.out⟩)
def Re.FcG (l : YLaw) (F : List FarmF) (w : World) (e : Ending) (w' : World) : Prop :=
 ∃ N D : Nat, e = .returned (.tuple #[.int .i64 (N : Int), .int .i64 (D : Int), .int .i64 (assErr l F)]) ∧ (assErr l F = 0 → N = (Re.fac l F).1 ∧ D = (Re.fac l F).2) ∧ Below w.heap.size w w'
theorem factor38_any {Q Q2 : Nat → Prop} (d : Nat) (r : RY) (l : YLaw) (p : Option Addr) (F : List FarmF) (cap : Nat) (w : World) (h : YV Q w d r l) (hF : FsAt Q2 w p F) :
  Calls Tryz.prog 46 #[.agg (yCells r).toArray, .slice p F.length cap] w (Re.FcG l F w) := by
 have SD := mh (fun (W : World) (hb : Below w.heap.size w W) => side_any d r l p F cap W (h.below hb) (hF.below hb)); obtain ⟨sp, sn, sc, tp, tn, tc, ldue, llast, lmille, gp, gn, gc, cp, ev, un, wd⟩ := r; simp only [yCells] at SD ⊢; have HB := mh ((brf w.heap.size w).alloc mle (.cells #[.slice sp sn sc, .slice tp tn tc, .int .i64 ldue, .int .i64 llast, .int .i64 lmille, .slice gp gn gc, .int .i64 cp, .int .i64 ev, .int .i64 un, .int .i64 wd] 29)); clear h hF
 go_enter Tryz.func46, Tryz.ntmps46
 go_wp2_with fail
 generalize w.alloc (.cells #[.slice sp sn sc, .slice tp tn tc, .int .i64 ldue, .int .i64 llast, .int .i64 lmille, .slice gp gn gc, .int .i64 cp, .int .i64 ev, .int .i64 un, .int .i64 wd] 29) = w0 at *; (with_reducible refine cmo (SD.out w0 HB.out) ?_); rintro e w1 (⟨hE, rfl, hb1⟩ | ⟨hE, q, c, rfl, hO, hb1⟩)
 ·have HB1 := mh ((HB.out.trans (hb1.mono HB.out.size)).alloc (by have := HB.out.size; have := hb1.size; omega) (.cells #[.slice none 0 0, .slice none 0 0, .int .i64 0, .int .i64 0, .bool false] 140))
  have HE := mh hE; clear hE hb1
  go_wp2_with fail
  go_region
  go_wp2
  go_ret3
  exact ⟨0, 0, rfl, fun h => absurd h HE.out, HB1.out.drew⟩
 ·have HB1 := mh ((HB.out.trans (hb1.mono HB.out.size)).alloc (by have := HB.out.size; have := hb1.size; omega) (.cells #[.slice p F.length cap, .slice q (assess l F).length c, .int .i64 ((Re.fac l F).1 : Int), .int .i64 ((Re.fac l F).2 : Int), .bool (Re.dvd l F)] 140))
  have HE := mh hE; clear hE hb1 hO
  go_wp2_with fail
  go_region
  go_wp2
  go_ret3
  exact ⟨(Re.fac l F).1, (Re.fac l F).2, by rw [HE.out]; rfl, fun _ => ⟨rfl, rfl⟩, HB1.out.drew⟩
end Go.Proofs.YtmlfcpglhipjgaaGreat
namespace Go.Proofs.YtmlfcpglhipjgaaGreat.Re
open Go.RowKit Sc As
theorem low_pos {N D : Nat} (hD : 1 ≤ D) : 1 ≤ (low N D).2 := by
 unfold low; have hg : 0 < Nat.gcd N D := Nat.gcd_pos_of_pos_right _ (by omega); exact Nat.div_pos (Nat.le_of_dvd (by omega) (Nat.gcd_dvd_right N D)) hg
theorem low_le {N D : Nat} (h : N ≤ D) : (low N D).1 ≤ (low N D).2 := by
 unfold low; exact Nat.div_le_div_right h
theorem low_terms {N D k : Nat} (hD : 1 ≤ D) (hk : 2 ≤ k) : ¬ ((low N D).1 % k = 0 ∧ (low N D).2 % k = 0) := by
 rintro ⟨h1, h2⟩; unfold low at h1 h2; have hg : 0 < Nat.gcd N D := Nat.gcd_pos_of_pos_right _ (by omega); have hc : Nat.gcd (N / Nat.gcd N D) (D / Nat.gcd N D) = 1 := by
  rw [Nat.gcd_div (Nat.gcd_dvd_left N D) (Nat.gcd_dvd_right N D), Nat.div_self hg]
 have hd := Nat.dvd_gcd (Nat.dvd_of_mod_eq_zero h1) (Nat.dvd_of_mod_eq_zero h2); rw [hc] at hd; have := Nat.le_of_dvd (by omega) hd; omega
theorem low_one {N D : Nat} (hD : 1 ≤ D) : ((low N D).1 = 1 ∧ (low N D).2 = 1) ↔ N = D := by
 unfold low; have hg : 0 < Nat.gcd N D := Nat.gcd_pos_of_pos_right _ (by omega)
 constructor
 ·rintro ⟨h1, h2⟩
  simp only at h1 h2; have e1 := Nat.div_mul_cancel (Nat.gcd_dvd_left N D); have e2 := Nat.div_mul_cancel (Nat.gcd_dvd_right N D); rw [h1, Nat.one_mul] at e1; rw [h2, Nat.one_mul] at e2; rw [← e1]; exact e2
 ·rintro rfl
  rw [Nat.gcd_self, Nat.div_self (by omega)]; exact ⟨rfl, rfl⟩
theorem fac_law {l : YLaw} {F : List FarmF} (h0 : assErr l F = 0) : 1 ≤ (fac l F).2 ∧ (fac l F).1 ≤ (fac l F).2 ∧ (∀ k, 2 ≤ k → ¬ ((fac l F).1 % k = 0 ∧ (fac l F).2 % k = 0)) ∧ (((fac l F).1 = 1 ∧ (fac l F).2 = 1) ↔ En.usum l.unit (cappeds (assess l F)) ≤ l.env / l.unit) ∧ ((fac l F).1 : Int) ≤ 9223372036854775807 ∧ ((fac l F).2 : Int) ≤ 9223372036854775807 := by
 have hE := err0 h0; obtain ⟨N, D, hf, hD, hN2, hD2, hND⟩ := fac_bd hE; have ef : fac l F = low N D := by unfold fac; rw [hf]; rfl
 rw [ef]; have b1 : (low N D).1 ≤ N := Nat.div_le_self _ _; have b2 : (low N D).2 ≤ D := Nat.div_le_self _ _; refine ⟨low_pos hD, low_le hND, fun k hk => low_terms hD hk, ?_, by omega, by omega⟩; rw [low_one hD]; have G := En.good_of hE; unfold En.factor at hf; rw [if_pos hE] at hf
 by_cases hq : l.env / l.unit < En.usum l.unit (cappeds (assess l F))
 ·rw [if_pos hq] at hf
  have e1 := congrArg Prod.fst hf; have e2 := congrArg Prod.snd hf; simp only at e1 e2
  constructor
  ·intro e; omega
  ·intro e; omega
 ·rw [if_neg hq] at hf
  have e1 := congrArg Prod.fst hf; have e2 := congrArg Prod.snd hf; simp only at e1 e2
  constructor
  ·intro _; omega
  ·intro _; omega
end Go.Proofs.YtmlfcpglhipjgaaGreat.Re
