/-
  PACKED (pack8.py): what is needed of the texts Xa, Xb, Xe, Xf, Am, Xg.
-/
import Derived.Test.YtmlfcpglhipjgaaGreatM30
import Derived.Test.YtmlfcpglhipjgaaGreatM31
set_option maxRecDepth 100000
set_option maxHeartbeats 8000000
open Go.Value renaming int → I
open Go.IntKind renaming i64 → O
namespace Go.Proofs.YtmlfcpglhipjgaaGreat
open Go.RowKit
namespace Re
def low (n d : Nat) : Nat × Nat := (n / Nat.gcd n d, d / Nat.gcd n d)
end Re
theorem lowest_any (N D : Nat) (w : World) (hN : (N : Int) ≤ 9223372036854775807) (hD : 1 ≤ D) (hD2 : (D : Int) ≤ 9223372036854775807) :
  Calls Tryz.prog 121 #[I O (N : Int), I O (D : Int)] w fun e w' => e = .returned (.tuple #[I O ((Re.low N D).1 : Int), I O ((Re.low N D).2 : Int)]) ∧ Below w.heap.size w w' := by
 unfold Re.low; have hN0 : (0 : Int) ≤ (N : Int) := inn _; have hD0 : (0 : Int) ≤ (D : Int) := inn _; obtain ⟨G, eG⟩ : ∃ g, Nat.gcd N D = g := ⟨_, rfl⟩; have hG : 1 ≤ G := by rw [← eG]; exact Nat.gcd_pos_of_pos_right _ (by omega)
 rw [eG]
 go_enter Tryz.func121, Tryz.ntmps121
 go_wp2
 go_loopw [6, 7] (fun a b W => ∃ A B : Nat, a = I O A ∧ b = I O B ∧ Nat.gcd A B = G ∧ (A : Int) ≤ 9223372036854775807 ∧ (B : Int) ≤ 9223372036854775807 ∧ Below w.heap.size w W) (fun _ b _ => (intOf b).toNat)
 case atStart => exact ⟨N, D, rfl, rfl, eG, hN, hD2, brf _ _⟩
 case round =>
  obtain ⟨A, B, rfl, rfl, hg, hA, hB, hb⟩ := hrel; have hA0 : (0 : Int) ≤ (A : Int) := inn _; have hB0 : (0 : Int) ≤ (B : Int) := inn _; have HB := mh hb; clear hb
  rcases Nat.eq_zero_or_pos B with hz | hz
  ·subst hz
   rw [Nat.gcd_zero_right] at hg; subst hg; have hA1 : (A : Int) ≠ 0 := by omega
   have wl : ∀ x : Nat, x ≤ 9223372036854775807 → wrap64 (x : Int) = (x : Int) := fun x h => IntWalk.wrap64_in _ ⟨by omega, by omega⟩
   have m1 : N / A ≤ N := Nat.div_le_self N A; have m2 : D / A ≤ D := Nat.div_le_self D A; have w1 : wrap64 ((N : Int) / (A : Int)) = ((N / A : Nat) : Int) := by rw [← Int.natCast_ediv]; exact wl _ (Nat.le_trans m1 (by omega))
   have w2 : wrap64 ((D : Int) / (A : Int)) = ((D / A : Nat) : Int) := by rw [← Int.natCast_ediv]; exact wl _ (Nat.le_trans m2 (by omega))
   rw [show ((0 : Nat) : Int) = 0 from rfl]
   go_wp2
   go_region
   go_wp2
   go_ret2
   refine ⟨?_, HB.out.drew⟩
   show Ending.returned (.tuple #[I O (wrap64 ((N : Int) / (A : Int))), I O (wrap64 ((D : Int) / (A : Int)))]) = _
   rw [w1, w2]
  ·have hB1 : (B : Int) ≠ 0 := by omega
   have hBn : ((B : Int) == 0) = false := by simpa using hB1
   have hBm : ((B : Int) != 0) = true := by simpa using hB1
   have q1 : (A : Int).tmod (B : Int) = ((A % B : Nat) : Int) := by rw [Int.tmod_eq_emod_of_nonneg hA0]; exact (Int.natCast_emod A B).symm
   have hr : A % B < B := Nat.mod_lt _ hz
   go_wp2
   go_region
   go_wp2
   go_roundw
   case rel => exact ⟨B, A % B, rfl, by rw [Int.natCast_emod], by rw [Nat.gcd_comm, ← Nat.gcd_rec, Nat.gcd_comm]; exact hg, hB, by omega, HB.out.drew⟩
   case measure => simp [intOf]; omega
open Sc As
namespace Re
def fac (l : YLaw) (F : List FarmF) : Nat × Nat := low (En.factor l.env l.unit (cappeds (assess l F))).1.toNat (En.factor l.env l.unit (cappeds (assess l F))).2.toNat
def dvd (l : YLaw) (F : List FarmF) : Bool := En.scaled l.env l.unit (cappeds (assess l F))
theorem err0 {l : YLaw} {F : List FarmF} (h0 : assErr l F = 0) : En.err l.env l.unit (cappeds (assess l F)) = 0 := by
 rw [(assess_at h0).2.1]; unfold assErr at h0
 by_cases h1 : chkF l F ≠ 0
 ·rw [if_pos h1] at h0; omega
 rw [if_neg h1] at h0
 by_cases h2 : allErr l F ≠ 0
 ·rw [if_pos h2] at h0; omega
 rw [if_neg h2] at h0
 by_cases h3 : 64 < (allAw l F).length
 ·rw [if_pos h3] at h0; omega
 rw [if_neg h3] at h0; exact h0
theorem fac_bd {e u : Int} {L : List Int} (h : En.err e u L = 0) : ∃ N D : Nat, En.factor e u L = ((N : Int), (D : Int)) ∧ 1 ≤ D ∧ (N : Int) ≤ 9223372036854775807 ∧ (D : Int) ≤ 9223372036854775807 ∧ N ≤ D := by
 have G := En.good_of h; have ub := usum_bd (u := u) G.u0 (xs := L) fun x hx => G.all x hx
 have hl := G.len; unfold En.factor; rw [if_pos h]
 by_cases hq : e / u < En.usum u L
 ·rw [if_pos hq]
  have h0 : 0 ≤ e / u := Int.ediv_nonneg G.e0 (by have := G.u0; omega); refine ⟨(e / u).toNat, (En.usum u L).toNat, ?_, ?_, ?_, ?_, ?_⟩
  ·rw [Int.toNat_of_nonneg h0, Int.toNat_of_nonneg (by omega)]
  all_goals omega
 ·rw [if_neg hq]
  exact ⟨1, 1, rfl, by omega, by omega, by omega, by omega⟩
end Re
def Re.SdG (l : YLaw) (F : List FarmF) (p : Option Addr) (cap : Nat) (w : World) (e : Ending) (w' : World) : Prop :=
 (assErr l F ≠ 0 ∧ e = .returned (.tuple #[.agg #[.slice none 0 0, .slice none 0 0, I O 0, I O 0, .bool false], I O (assErr l F)]) ∧ Below w.heap.size w w') ∨
 (assErr l F = 0 ∧ ∃ q c, e = .returned (.tuple #[.agg #[.slice p F.length cap, .slice q (assess l F).length c, I O ((Re.fac l F).1 : Int), I O ((Re.fac l F).2 : Int), .bool (Re.dvd l F)], I O 0]) ∧ OwnR SA w' 60 w.heap.size (.slice q (assess l F).length c) (assess l F) ∧ Below w.heap.size w w')
theorem side_any {Q Q2 : Nat → Prop} (d : Nat) (r : RY) (l : YLaw) (p : Option Addr) (F : List FarmF) (cap : Nat) (w : World) (h : YV Q w d r l) (hF : FsAt Q2 w p F) :
  Calls Tryz.prog 82 #[.agg (yCells r).toArray, .slice p F.length cap] w (Re.SdG l F p cap w) := by
 have AS := mh (fun (W : World) (hb : Below w.heap.size w W) => assess34_any d r l p F cap W (h.below hb) (hF.below hb)); have EV := h.env; have UN := h.unit; obtain ⟨sp, sn, sc, tp, tn, tc, ldue, llast, lmille, gp, gn, gc, cp, ev, un, wd⟩ := r; simp only at EV UN; subst EV; subst UN; unfold AsG at AS; simp only [yCells] at AS ⊢; obtain ⟨gy, egy⟩ : ∃ g, w.heap.size = g := ⟨_, rfl⟩; have hA1 := (brf w.heap.size w).alloc mle (.cells #[.slice sp sn sc, .slice tp tn tc, I O ldue, I O llast, I O lmille, .slice gp gn gc, I O cp, I O l.env, I O l.unit, I O wd] 29); have B1 := Blk.new w #[.slice sp sn sc, .slice tp tn tc, I O ldue, I O llast, I O lmille, .slice gp gn gc, I O cp, I O l.env, I O l.unit, I O wd] 29; have hA2 := (brf (w.alloc (.cells #[.slice sp sn sc, .slice tp tn tc, I O ldue, I O llast, I O lmille, .slice gp gn gc, I O cp, I O l.env, I O l.unit, I O wd] 29)).heap.size (w.alloc (.cells #[.slice sp sn sc, .slice tp tn tc, I O ldue, I O llast, I O lmille, .slice gp gn gc, I O cp, I O l.env, I O l.unit, I O wd] 29))).alloc mle (.cells #[.slice none 0 0, .slice none 0 0, I O 0, I O 0, .bool false] 140); have B2 := mh (Blk.new (w.alloc (.cells #[.slice sp sn sc, .slice tp tn tc, I O ldue, I O llast, I O lmille, .slice gp gn gc, I O cp, I O l.env, I O l.unit, I O wd] 29)) #[.slice none 0 0, .slice none 0 0, I O 0, I O 0, .bool false] 140); have hs1 : (w.alloc (.cells #[.slice sp sn sc, .slice tp tn tc, I O ldue, I O llast, I O lmille, .slice gp gn gc, I O cp, I O l.env, I O l.unit, I O wd] 29)).heap.size = gy + 1 := by rw [World.size_alloc, egy]
 have B1' := mh (B1.below hA2); have HB := mh (hA1.trans (hA2.mono hA1.size)); rw [egy] at B1'; rw [hs1] at B2; clear h hF hA1 hA2 B1; obtain ⟨E, eE⟩ : ∃ E, assErr l F = E := ⟨_, rfl⟩; simp only [eE] at AS
 go_enter Tryz.func82, Tryz.ntmps82
 go_wp2_with fail
 clear hs1; generalize (w.alloc (.cells #[.slice sp sn sc, .slice tp tn tc, I O ldue, I O llast, I O lmille, .slice gp gn gc, I O cp, I O l.env, I O l.unit, I O wd] 29)).alloc (.cells #[.slice none 0 0, .slice none 0 0, I O 0, I O 0, .bool false] 140) = w0 at *; (with_reducible refine cmo (AS.out w0 HB.out) ?_); rintro e w1 ⟨va, rfl, hoa, hb1⟩; have Y1 := mh (B1'.out.below hb1); have S1 := mh (B2.out.below hb1); have HB1 := mh (HB.out.trans (hb1.mono HB.out.size)); have HG := mh (show gy + 1 < w0.heap.size from B2.out.lt); have OA := mh (hoa.mono HB.out.size); have OB := mh (show ∀ g, va.ownBlock = some g → gy + 1 < g ∧ g < w1.heap.size from fun g hg => ⟨nll HG.out (hoa.lt hg).1, (hoa.lt hg).2⟩); have EE := mh eE; clear hb1 hoa B1' B2 AS eE; have s0 := S1.out.cell 0; have s1 := S1.out.cell 1; have s2 := S1.out.cell 2; have s3 := S1.out.cell 3; have s4 := S1.out.cell 4; have f0 := S1.out.fr 0; have f1 := S1.out.fr 1; have f2 := S1.out.fr 2; have f3 := S1.out.fr 3; have f4 := S1.out.fr 4
 by_cases hE : E = 0
 rotate_left
 ·have hne : (E != 0) = true := by simpa using hE
  have HE := mh hE; clear hE
  go_wp2_with fail
  have SS := mh (show Blk (((((w1.setCell ⟨gy + 1, 0, none⟩ (.slice none 0 0)).setCell ⟨gy + 1, 1, none⟩ (.slice none 0 0)).setCell ⟨gy + 1, 2, none⟩ (I O 0)).setCell ⟨gy + 1, 3, none⟩ (I O 0)).setCell ⟨gy + 1, 4, none⟩ (.bool false)) (gy + 1) #[.slice none 0 0, .slice none 0 0, I O 0, I O 0, .bool false] 140 from (((((S1.out.set 0 _).set 1 _).set 2 _).set 3 _).set 4 _)); have BB := mh (show Below w.heap.size w (((((w1.setCell ⟨gy + 1, 0, none⟩ (.slice none 0 0)).setCell ⟨gy + 1, 1, none⟩ (.slice none 0 0)).setCell ⟨gy + 1, 2, none⟩ (I O 0)).setCell ⟨gy + 1, 3, none⟩ (I O 0)).setCell ⟨gy + 1, 4, none⟩ (.bool false)) from (((((HB1.out.setCell (p := ⟨gy + 1, 0, none⟩) (by show _ ≤ gy + 1; omega) _).setCell (p := ⟨gy + 1, 1, none⟩) (by show _ ≤ gy + 1; omega) _).setCell (p := ⟨gy + 1, 2, none⟩) (by show _ ≤ gy + 1; omega) _).setCell (p := ⟨gy + 1, 3, none⟩) (by show _ ≤ gy + 1; omega) _).setCell (p := ⟨gy + 1, 4, none⟩) (by show _ ≤ gy + 1; omega) _)); generalize (((((w1.setCell ⟨gy + 1, 0, none⟩ (.slice none 0 0)).setCell ⟨gy + 1, 1, none⟩ (.slice none 0 0)).setCell ⟨gy + 1, 2, none⟩ (I O 0)).setCell ⟨gy + 1, 3, none⟩ (I O 0)).setCell ⟨gy + 1, 4, none⟩ (.bool false)) = wf at *; have d0 := SS.out.cell 0; have d1 := SS.out.cell 1; have d2 := SS.out.cell 2; have d3 := SS.out.cell 3; have d4 := SS.out.cell 4; exact bodyPost_ret (v := .tuple #[.agg #[.slice none 0 0, .slice none 0 0, I O 0, I O 0, .bool false], I O E]) (by simp [results, Tryz.results82, go_sem, d0, d1, d2, d3, d4]) rfl (Or.inl ⟨by rw [EE.out]; exact HE.out, by rw [EE.out], BB.out⟩)
 subst hE; have CE := mh (Re.err0 EE.out); obtain ⟨A, eA⟩ : ∃ A, assess l F = A := ⟨_, rfl⟩; obtain ⟨n, en⟩ : ∃ n, A.length = n := ⟨_, rfl⟩; rw [eA] at OA CE; obtain ⟨pa, ca, rfl, -, -, -, -, hra⟩ := OA.out.cut en; have RA := mh hra; have HNA := mh en; have GD := mh (En.good_of CE.out); have hn64 : n ≤ 64 := by have := GD.out.len; unfold cappeds at this; rw [List.length_map, en] at this; exact this
 have EA := mh eA; clear hra en eA
 go_wp2_with fail
 go_loopw [8, 26] (fun cv i W => ∃ k : Nat, k ≤ n ∧ i = I O k ∧ OwnR SI W 3 w1.heap.size cv (cappeds (A.take k)) ∧ Below w1.heap.size w1 W) (fun _ i _ => n - (intOf i).toNat)
 case atStart => exact ⟨0, Nat.zero_le _, rfl, OwnR.nil _ _ _, brf _ _⟩
 case round =>
  obtain ⟨wp, rfl⟩ : ∃ wp : World, wp = wr := ⟨_, rfl⟩; obtain ⟨k, hk, rfl, hC, hb2⟩ := hrel; have HC := mh hC; have HB2 := mh hb2; have hk0 : (0 : Int) ≤ (k : Int) := inn _; clear hC hb2 s0 s1 s2 s3 s4 f0 f1 f2 f3 f4
  by_cases hlt : k < n
  ·have hk1 : (k : Int) < (n : Int) := by omega
   have hkA : k < A.length := by rw [HNA.out]; exact hlt
   obtain ⟨b, off, rfl, hbl, ⟨c0, c1, c2, c3, c4, c5, c6, c7, c8⟩⟩ := SA_at (RA.out.below HB2.out) hkA
   have ST := mh (show cappeds (A.take (k + 1)) = cappeds (A.take k) ++ [A[k].capped] from by
    rw [tsg hkA]; unfold cappeds; rw [List.map_append]; rfl)
   have HCL := mh (show (cappeds (A.take k)).length ≤ 64 from by unfold cappeds; rw [List.length_map, List.length_take]; omega); obtain ⟨x, ex⟩ : ∃ x, A[k] = x := ⟨_, rfl⟩; rw [ex] at c0 c1 c2 c3 c4 c5 c6 c7 c8 ST; have hbx := (brf wp.heap.size wp).alloc mle (.cells #[I O x.farm, I O x.scheme, I O x.decl, I O x.det, I O x.paid, I O x.rated, I O x.timely, I O x.capped, I O x.due] 60); have HC2 := mh (HC.out.below hbx); have HBX := mh (HB2.out.trans (hbx.mono HB2.out.size)); clear hbl ex hbx
   go_wp2_with (first | (at_builtin; (refine OwnR.append el_int rfl (.tmp 30) (.tmp 33) rfl w1.heap.size _ (cappeds (A.take k)) x.capped #[I O x.capped] rfl HC2.out rfl (by simp [Act.eval]) HBX.out.size (by have := HCL.out; omega) (by decide) ?_); intro v5 w5 hO5 hap5; have HO5 := mh hO5; have HB5 := mh (HBX.out.trans hap5.below); clear hO5 hap5) | fail)
   go_roundw
   case rel => exact ⟨k + 1, by omega, by go_num, by rw [ST.out]; exact HO5.out, HB5.out⟩
   case measure => simp [intOf]; omega
  ·obtain rfl : k = n := by omega
   have HC' := mh (show OwnR SI wp 3 w1.heap.size _ (cappeds A) from by have := HC.out; rw [List.take_of_length_le (by rw [HNA.out]; exact Nat.le_refl _)] at this; exact this); have CL := mh (show (cappeds A).length = k from by unfold cappeds; rw [List.length_map, HNA.out]); obtain ⟨pc, cc, rfl, -, -, -, -, hrc⟩ := HC'.out.cut CL.out; have hI := hrc.ints; obtain ⟨N, D, hf, hD1, hN2, hD2, -⟩ := Re.fac_bd CE.out; have FC := mh (factor_any l.env l.unit pc (cappeds A) cc wp hI); have SCD := mh (fun (W : World) (hb : Below wp.heap.size wp W) => scaled_any l.env l.unit pc (cappeds A) cc W (hI.below hb)); have LW := mh (fun (W : World) => lowest_any N D W hN2 hD1 hD2); rw [hf, CE.out, CL.out] at FC; rw [CL.out] at SCD; simp only at FC; have EF := mh (show Re.fac l F = Re.low N D from by unfold Re.fac; rw [EA.out, hf]; rfl); have ED := mh (show Re.dvd l F = En.scaled l.env l.unit (cappeds A) from by unfold Re.dvd; rw [EA.out]); have YP := mh (Y1.out.below HB2.out); have y7 := YP.out.cell 7; have y8 := YP.out.cell 8; clear hrc hI hf hD1 hN2 hD2 HC HC' hk hlt hk0
   go_wp2_with fail
   (with_reducible refine cmo FC.out ?_); rintro e w6 ⟨rfl, hb6⟩; have HB6 := mh hb6; have YP6 := mh (YP.out.below hb6); have y7b := YP6.out.cell 7; have y8b := YP6.out.cell 8; clear hb6 y7 y8
   go_wp2_with fail
   (with_reducible refine cmo (SCD.out w6 HB6.out) ?_); rintro e w7 ⟨rfl, hb7⟩; have HB7 := mh (HB6.out.trans (hb7.mono HB6.out.size)); clear hb7 y7b y8b; obtain ⟨gx, egx⟩ : ∃ g, w7.heap.size = g := ⟨_, rfl⟩; have hAx := (brf w7.heap.size w7).alloc mle (.cells #[.slice p F.length cap, .slice pa k ca, I O 0, I O 0, .bool (En.scaled l.env l.unit (cappeds A))] 140); have X0 := mh (egx ▸ Blk.new w7 #[.slice p F.length cap, .slice pa k ca, I O 0, I O 0, .bool (En.scaled l.env l.unit (cappeds A))] 140); have S7 := mh (((S1.out.below HB2.out).below HB7.out).below hAx); have A7 := mh ((OA.out.below (HB2.out.trans (HB7.out.mono HB2.out.size))).below hAx); have HBX := mh (((HB1.out.trans ((HB2.out.trans (HB7.out.mono HB2.out.size)).mono HB1.out.size))).trans (hAx.mono (Nat.le_trans HB1.out.size (Nat.le_trans HB2.out.size HB7.out.size)))); have HGX := mh (show gy + 1 < gx by have := HG.out; have := HB1.out.size; have := (S1.out.below HB2.out).lt; have := HB7.out.size; omega); clear hAx
   go_wp2_with fail
   generalize w7.alloc (.cells #[.slice p F.length cap, .slice pa k ca, I O 0, I O 0, .bool (En.scaled l.env l.unit (cappeds A))] 140) = w7x at *; (with_reducible refine cmo (LW.out w7x) ?_); rintro e w8 ⟨rfl, hb8⟩; have X8 := mh (X0.out.below hb8); have S8 := mh (S7.out.below hb8); have A8 := mh (A7.out.below hb8); have HBQ := mh (HBX.out.trans (hb8.mono HBX.out.size)); have x0 := X8.out.cell 0; have x1 := X8.out.cell 1; have x2 := X8.out.cell 2; have x3 := X8.out.cell 3; have x4 := X8.out.cell 4; have xf2 := X8.out.fr 2; have xf3 := X8.out.fr 3; have s0 := S8.out.cell 0; have s1 := S8.out.cell 1; have s2 := S8.out.cell 2; have s3 := S8.out.cell 3; have s4 := S8.out.cell 4; have f0 := S8.out.fr 0; have f1 := S8.out.fr 1; have f2 := S8.out.fr 2; have f3 := S8.out.fr 3; have f4 := S8.out.fr 4; have hgx := HGX.out; clear hb8
   go_wp2_with fail
   have SS := mh (show Blk (((((((w8.setCell ⟨gx, 2, none⟩ (I O ((Re.low N D).1 : Int))).setCell ⟨gx, 3, none⟩ (I O ((Re.low N D).2 : Int))).setCell ⟨gy + 1, 0, none⟩ (.slice p F.length cap)).setCell ⟨gy + 1, 1, none⟩ (.slice pa k ca)).setCell ⟨gy + 1, 2, none⟩ (I O ((Re.low N D).1 : Int))).setCell ⟨gy + 1, 3, none⟩ (I O ((Re.low N D).2 : Int))).setCell ⟨gy + 1, 4, none⟩ (.bool (En.scaled l.env l.unit (cappeds A)))) (gy + 1) #[.slice p F.length cap, .slice pa k ca, I O ((Re.low N D).1 : Int), I O ((Re.low N D).2 : Int), .bool (En.scaled l.env l.unit (cappeds A))] 140 from ((((((((S8.out.far (by omega) _).far (by omega) _).set 0 _).set 1 _).set 2 _).set 3 _).set 4 _))); have BB := mh (show Below w.heap.size w (((((((w8.setCell ⟨gx, 2, none⟩ (I O ((Re.low N D).1 : Int))).setCell ⟨gx, 3, none⟩ (I O ((Re.low N D).2 : Int))).setCell ⟨gy + 1, 0, none⟩ (.slice p F.length cap)).setCell ⟨gy + 1, 1, none⟩ (.slice pa k ca)).setCell ⟨gy + 1, 2, none⟩ (I O ((Re.low N D).1 : Int))).setCell ⟨gy + 1, 3, none⟩ (I O ((Re.low N D).2 : Int))).setCell ⟨gy + 1, 4, none⟩ (.bool (En.scaled l.env l.unit (cappeds A)))) from (((((((HBQ.out.setCell (p := ⟨gx, 2, none⟩) (by show _ ≤ gx; omega) _).setCell (p := ⟨gx, 3, none⟩) (by show _ ≤ gx; omega) _).setCell (p := ⟨gy + 1, 0, none⟩) (by show _ ≤ gy + 1; omega) _).setCell (p := ⟨gy + 1, 1, none⟩) (by show _ ≤ gy + 1; omega) _).setCell (p := ⟨gy + 1, 2, none⟩) (by show _ ≤ gy + 1; omega) _).setCell (p := ⟨gy + 1, 3, none⟩) (by show _ ≤ gy + 1; omega) _).setCell (p := ⟨gy + 1, 4, none⟩) (by show _ ≤ gy + 1; omega) _)); have HSZ := mh (show w1.heap.size ≤ gx from by have := HB2.out.size; have := HB7.out.size; omega)
   have AF := mh (show OwnR SA (((((((w8.setCell ⟨gx, 2, none⟩ (I O ((Re.low N D).1 : Int))).setCell ⟨gx, 3, none⟩ (I O ((Re.low N D).2 : Int))).setCell ⟨gy + 1, 0, none⟩ (.slice p F.length cap)).setCell ⟨gy + 1, 1, none⟩ (.slice pa k ca)).setCell ⟨gy + 1, 2, none⟩ (I O ((Re.low N D).1 : Int))).setCell ⟨gy + 1, 3, none⟩ (I O ((Re.low N D).2 : Int))).setCell ⟨gy + 1, 4, none⟩ (.bool (En.scaled l.env l.unit (cappeds A)))) 60 w.heap.size (.slice pa k ca) A from by
    have hn1 : (Value.slice pa k ca).ownBlock ≠ some gx := fun e => by have := (OB.out _ e).2; have := HSZ.out; omega
    have hn2 : (Value.slice pa k ca).ownBlock ≠ some (gy + 1) := fun e => by have := (OB.out _ e).1; omega
    exact (((((((A8.out.setOther hn1 (i := 2) _).setOther hn1 (i := 3) _).setOther hn2 (i := 0) _).setOther hn2 (i := 1) _).setOther hn2 (i := 2) _).setOther hn2 (i := 3) _).setOther hn2 (i := 4) _))
   generalize (((((((w8.setCell ⟨gx, 2, none⟩ (I O ((Re.low N D).1 : Int))).setCell ⟨gx, 3, none⟩ (I O ((Re.low N D).2 : Int))).setCell ⟨gy + 1, 0, none⟩ (.slice p F.length cap)).setCell ⟨gy + 1, 1, none⟩ (.slice pa k ca)).setCell ⟨gy + 1, 2, none⟩ (I O ((Re.low N D).1 : Int))).setCell ⟨gy + 1, 3, none⟩ (I O ((Re.low N D).2 : Int))).setCell ⟨gy + 1, 4, none⟩ (.bool (En.scaled l.env l.unit (cappeds A)))) = wf at *; have d0 := SS.out.cell 0; have d1 := SS.out.cell 1; have d2 := SS.out.cell 2; have d3 := SS.out.cell 3; have d4 := SS.out.cell 4; exact bodyPost_ret (v := .tuple #[.agg #[.slice p F.length cap, .slice pa k ca, I O ((Re.low N D).1 : Int), I O ((Re.low N D).2 : Int), .bool (En.scaled l.env l.unit (cappeds A))], I O 0]) (by simp [results, Tryz.results82, go_sem, d0, d1, d2, d3, d4]) rfl (Or.inr ⟨EE.out, pa, ca, by rw [EF.out, ED.out, EA.out, HNA.out], by rw [EA.out, HNA.out]; exact AF.out, BB.out⟩)
namespace Re
def farm0 : FarmF := ⟨0, 0, []⟩
def findF (F : List FarmF) (farm : Int) : FarmF := (F.find? fun f => f.farm == farm).getD farm0
theorem findF_hit {F : List FarmF} {farm : Int} {k : Nat} (hk : k < F.length) (h0 : ∀ f ∈ F.take k, f.farm ≠ farm) (h : F[k].farm = farm) : findF F farm = F[k] := by
 unfold findF; have e : F = F.take k ++ F[k] :: F.drop (k + 1) := by
  rw [List.getElem_cons_drop, List.take_append_drop]
 have hn : (F.take k).find? (fun f => f.farm == farm) = none := List.find?_eq_none.2 fun f hf => by simpa using h0 f hf
 generalize F[k] = x at *; rw [e, List.find?_append, hn, List.find?_cons_of_pos (by simpa using h)]
 rfl
theorem findF_none {F : List FarmF} {farm : Int} (h0 : ∀ f ∈ F, f.farm ≠ farm) : findF F farm = farm0 := by
 unfold findF; rw [List.find?_eq_none.2 fun f hf => by simpa using h0 f hf]
 rfl
end Re
def Re.FaG (Q : Nat → Prop) (f : FarmF) (w : World) (e : Ending) (w' : World) : Prop :=
 ∃ r : RF, e = .returned (.agg (fCells r).toArray) ∧ FV Q w' r f ∧ Below w.heap.size w w'
theorem farm38_any {Q : Nat → Prop} (fp : Option Addr) (F : List FarmF) (fc : Nat) (ap : Option Addr) (an ac : Nat) (num den : Int) (dv : Bool) (farm : Int) (w : World) (h : FsAt Q w fp F) :
  Calls Tryz.prog 86 #[.agg #[.slice fp F.length fc, .slice ap an ac, I O num, I O den, .bool dv], I O farm] w (Re.FaG Q (Re.findF F farm) w) := by
 have H := mh (show FsAt (fun b => Q b ∧ b < w.heap.size) w fp F from h.change mle fun b q hl => ⟨rfl, q, hl⟩); have hlen := h.len; obtain ⟨g, eg⟩ : ∃ g, w.heap.size = g := ⟨_, rfl⟩; have hA1 := (brf w.heap.size w).alloc mle (.cells #[.slice fp F.length fc, .slice ap an ac, I O num, I O den, .bool dv] 140); have hs1 : (w.alloc (.cells #[.slice fp F.length fc, .slice ap an ac, I O num, I O den, .bool dv] 140)).heap.size = g + 1 := by rw [World.size_alloc, eg]
 have hA2 := (brf (w.alloc (.cells #[.slice fp F.length fc, .slice ap an ac, I O num, I O den, .bool dv] 140)).heap.size (w.alloc (.cells #[.slice fp F.length fc, .slice ap an ac, I O num, I O den, .bool dv] 140))).alloc mle (.cells #[I O 0, I O 0, .slice none 0 0] 47); have HB0 := mh (hA1.trans (hA2.mono hA1.size)); have Z0 := mh (hs1 ▸ Blk.new (w.alloc (.cells #[.slice fp F.length fc, .slice ap an ac, I O num, I O den, .bool dv] 140)) #[I O 0, I O 0, .slice none 0 0] 47); clear h hA1 hA2 hs1
 go_enter Tryz.func86, Tryz.ntmps86
 go_wp2
 generalize (w.alloc (.cells #[.slice fp F.length fc, .slice ap an ac, I O num, I O den, .bool dv] 140)).alloc (.cells #[I O 0, I O 0, .slice none 0 0] 47) = w0 at *
 go_loopw [10] (fun i wr => ∃ k : Nat, k ≤ F.length ∧ i = I O k ∧ (∀ f ∈ F.take k, f.farm ≠ farm) ∧ Below w0.heap.size w0 wr) (fun i _ => F.length - (intOf i).toNat)
 case atStart => exact ⟨0, Nat.zero_le _, rfl, fun f hf => by simp at hf, brf _ _⟩
 case round =>
  obtain ⟨wo, rfl⟩ : ∃ wo : World, wo = wr := ⟨_, rfl⟩; obtain ⟨k, hk, rfl, hno, hb⟩ := hrel; have HN := mh hno; have HB := mh hb; have hk0 : (0 : Int) ≤ (k : Int) := inn _; have ZO := mh (Z0.out.below hb); have BO := mh (HB0.out.trans (hb.mono HB0.out.size)); have HO := mh (H.out.below BO.out); clear hno hb
  by_cases hlt : k < F.length
  ·have hk1 : (k : Int) < (F.length : Int) := by omega
   obtain ⟨b, off, ⟨xf, xd, lp, ln, lc⟩, rfl, hbl, ⟨c0, c1, c2⟩, hv⟩ := HO.out.at hlt; have hba := (brf wo.heap.size wo).alloc mle (.cells #[I O xf, I O xd, .slice lp ln lc] 47); have HW := mh hv; have HBA := mh (HB.out.trans (hba.mono HB.out.size)); have ZA := mh (ZO.out.below hba); have BA := mh (BO.out.trans (hba.mono BO.out.size)); have EF := mh hv.farm; simp only at c0 c1 c2; clear hv
   by_cases hf : xf = farm
   ·have hfb : (xf == farm) = true := by simpa using hf
    have EQ := mh (Re.findF_hit hlt HN.out (by rw [← EF.out]; exact hf)); have z0 := ZO.out.cell 0; have z1 := ZO.out.cell 1; have z2 := ZO.out.cell 2; have y0 := ZO.out.fr 0; have y1 := ZO.out.fr 1; have y2 := ZO.out.fr 2; have HG := mh (show g + 1 < wo.heap.size from ZO.out.lt); have hgo := HG.out; clear hba hf; have BS : Below g wo (((wo.setCell ⟨g + 1, 0, none⟩ (I O xf)).setCell ⟨g + 1, 1, none⟩ (I O xd)).setCell ⟨g + 1, 2, none⟩ (.slice lp ln lc)) := ((((brf g wo).setCell (p := ⟨g + 1, 0, none⟩) (by show g ≤ g + 1; omega) (I O xf)).setCell (p := ⟨g + 1, 1, none⟩) (by show g ≤ g + 1; omega) (I O xd)).setCell (p := ⟨g + 1, 2, none⟩) (by show g ≤ g + 1; omega) (.slice lp ln lc)); have BX := mh (show Below g wo ((((wo.setCell ⟨g + 1, 0, none⟩ (I O xf)).setCell ⟨g + 1, 1, none⟩ (I O xd)).setCell ⟨g + 1, 2, none⟩ (.slice lp ln lc)).alloc (.cells #[I O xf, I O xd, .slice lp ln lc] 47)) from BS.alloc (by rw [setCell_sz, setCell_sz, setCell_sz]; have := ZO.out.lt; omega) _); have SS := mh (show Blk ((((wo.setCell ⟨g + 1, 0, none⟩ (I O xf)).setCell ⟨g + 1, 1, none⟩ (I O xd)).setCell ⟨g + 1, 2, none⟩ (.slice lp ln lc)).alloc (.cells #[I O xf, I O xd, .slice lp ln lc] 47)) (g + 1) #[I O xf, I O xd, .slice lp ln lc] 47 from Blk.below (show Blk (((wo.setCell ⟨g + 1, 0, none⟩ (I O xf)).setCell ⟨g + 1, 1, none⟩ (I O xd)).setCell ⟨g + 1, 2, none⟩ (.slice lp ln lc)) (g + 1) #[I O xf, I O xd, .slice lp ln lc] 47 from ((ZO.out.set 0 _).set 1 _).set 2 _) ((brf _ _).alloc mle _)); have FX := mh (show FV Q ((((wo.setCell ⟨g + 1, 0, none⟩ (I O xf)).setCell ⟨g + 1, 1, none⟩ (I O xd)).setCell ⟨g + 1, 2, none⟩ (.slice lp ln lc)).alloc (.cells #[I O xf, I O xd, .slice lp ln lc] 47)) ⟨xf, xd, lp, ln, lc⟩ F[k] from HW.out.change BX.out.size fun b q _ => ⟨BX.out.block b (by rw [← eg]; exact q.2), q.1⟩); clear BS
    go_wp2_with fail
    generalize ((((wo.setCell ⟨g + 1, 0, none⟩ (I O xf)).setCell ⟨g + 1, 1, none⟩ (I O xd)).setCell ⟨g + 1, 2, none⟩ (.slice lp ln lc)).alloc (.cells #[I O xf, I O xd, .slice lp ln lc] 47)) = wf at *; have d0 := SS.out.cell 0; have d1 := SS.out.cell 1; have d2 := SS.out.cell 2; exact bodyPost_ret (v := .agg #[I O xf, I O xd, .slice lp ln lc]) (by simp [results, Tryz.results86, go_sem, d0, d1, d2]) rfl ⟨⟨xf, xd, lp, ln, lc⟩, rfl, by rw [EQ.out]; exact FX.out, BO.out.trans (by rw [eg]; exact BX.out)⟩
   ·have hfb : (xf == farm) = false := by simpa using hf
    have NX := mh (show ∀ f ∈ F.take (k + 1), f.farm ≠ farm from fun f hm => by
     rw [tsg hlt, List.mem_append, List.mem_singleton] at hm
     rcases hm with hm | rfl
     ·exact HN.out f hm
     ·rw [← EF.out]; exact hf)
    clear hba hf
    go_wp2_with fail
    go_roundw
    case rel => exact ⟨k + 1, by omega, by go_num, NX.out, HBA.out⟩
    case measure => simp [intOf]; omega
  ·obtain rfl : k = F.length := by omega
   have EQ := mh (Re.findF_none (F := F) (farm := farm) fun f hf => HN.out f (by rw [List.take_length]; exact hf)); have z0 := ZO.out.cell 0; have z1 := ZO.out.cell 1; have z2 := ZO.out.cell 2; have y0 := ZO.out.fr 0; have y1 := ZO.out.fr 1; have y2 := ZO.out.fr 2; have BS : Below g wo (((wo.setCell ⟨g + 1, 0, none⟩ (I O 0)).setCell ⟨g + 1, 1, none⟩ (I O 0)).setCell ⟨g + 1, 2, none⟩ (.slice none 0 0)) := ((((brf g wo).setCell (p := ⟨g + 1, 0, none⟩) (by show g ≤ g + 1; omega) (I O 0)).setCell (p := ⟨g + 1, 1, none⟩) (by show g ≤ g + 1; omega) (I O 0)).setCell (p := ⟨g + 1, 2, none⟩) (by show g ≤ g + 1; omega) (.slice none 0 0)); have BX := mh (show Below g wo (((wo.setCell ⟨g + 1, 0, none⟩ (I O 0)).setCell ⟨g + 1, 1, none⟩ (I O 0)).setCell ⟨g + 1, 2, none⟩ (.slice none 0 0)) from BS); have SS := mh (show Blk (((wo.setCell ⟨g + 1, 0, none⟩ (I O 0)).setCell ⟨g + 1, 1, none⟩ (I O 0)).setCell ⟨g + 1, 2, none⟩ (.slice none 0 0)) (g + 1) #[I O 0, I O 0, .slice none 0 0] 47 from ((ZO.out.set 0 _).set 1 _).set 2 _); have FX := mh (show FV Q (((wo.setCell ⟨g + 1, 0, none⟩ (I O 0)).setCell ⟨g + 1, 1, none⟩ (I O 0)).setCell ⟨g + 1, 2, none⟩ (.slice none 0 0)) ⟨0, 0, none, 0, 0⟩ Re.farm0 from ⟨rfl, rfl, LsAt.nil _ _ _, rfl, Nat.le_refl _, fun _ => rfl⟩); clear BS
   go_wp2_with fail
   generalize (((wo.setCell ⟨g + 1, 0, none⟩ (I O 0)).setCell ⟨g + 1, 1, none⟩ (I O 0)).setCell ⟨g + 1, 2, none⟩ (.slice none 0 0)) = wf at *; have d0 := SS.out.cell 0; have d1 := SS.out.cell 1; have d2 := SS.out.cell 2; exact bodyPost_ret (v := .agg #[I O 0, I O 0, .slice none 0 0]) (by simp [results, Tryz.results86, go_sem, d0, d1, d2]) rfl ⟨⟨0, 0, none, 0, 0⟩, rfl, by rw [EQ.out]; exact FX.out, BO.out.trans (by rw [eg]; exact BX.out)⟩
namespace Re
structure Chg where
 kind : Int
 line : Int
deriving DecidableEq
structure Dif where
 farm : Int
 before : Int
 after : Int
 chg : List Chg
deriving DecidableEq
def chCells (r : Chg) : List Value := [I O r.kind, I O r.line]
def SCh : Shape Chg := ⟨2, chCells, fun _ => rfl, by decide, fun a u hu => by
 simp only [chCells, List.mem_cons, List.not_mem_nil, or_false] at hu
 rcases hu with rfl | rfl <;> rfl⟩
structure RD where
 farm : Int
 before : Int
 after : Int
 p : Option Addr
 n : Nat
 c : Nat
def dfCells (r : RD) : List Value := [I O r.farm, I O r.before, I O r.after, .slice r.p r.n r.c]
def SDf : Shape RD := ⟨4, dfCells, fun _ => rfl, by decide, fun a u hu => by
 simp only [dfCells, List.mem_cons, List.not_mem_nil, or_false] at hu
 rcases hu with rfl | rfl | rfl | rfl <;> rfl⟩
theorem info_chg : (Tryz.prog.info? 91).map (fun i => (i.zero, i.size, i.bytes)) = some (some (.agg #[I O 0, I O 0]), 2, 16) := by kernel_rfl
theorem el_chg : Elem SCh Tryz.prog 91 75 16 := by
 obtain ⟨i0, h1, h2, h3, h4⟩ := info_parts info_chg; exact ⟨⟨i0, _, h1, h2, h3, h4, rfl⟩, Tryz.underlying75⟩
theorem info_dif : (Tryz.prog.info? 88).map (fun i => (i.zero, i.size, i.bytes)) = some (some (.agg #[I O 0, I O 0, I O 0, .slice none 0 0]), 4, 48) := by kernel_rfl
theorem el_dif : Elem SDf Tryz.prog 88 72 48 := by
 obtain ⟨i0, h1, h2, h3, h4⟩ := info_parts info_dif; exact ⟨⟨i0, _, h1, h2, h3, h4, rfl⟩, Tryz.underlying72⟩
structure DV (Q : Nat → Prop) (w : World) (r : RD) (x : Dif) : Prop where
 farm : r.farm = x.farm
 before : r.before = x.before
 after : r.after = x.after
 chg : Recs SCh w r.p x.chg
 n : r.n = x.chg.length
 c : r.n ≤ r.c
 z : r.p = none → r.c = 0
 q : ∀ a, r.p = some a → x.chg = [] ∨ Q a.block
theorem DV.change {Q Q' : Nat → Prop} {w w' : World} {r : RD} {x : Dif} (h : DV Q w r x) (_hs : w.heap.size ≤ w'.heap.size) (hb : ∀ b, Q b → b < w.heap.size → w'.heap[b]? = w.heap[b]? ∧ Q' b) : DV Q' w' r x := by
 have key : ∀ a, r.p = some a → x.chg = [] ∨ (w'.heap[a.block]? = w.heap[a.block]? ∧ Q' a.block) := fun a e => by
  rcases h.q a e with h0 | h0
  ·exact .inl h0
  ·by_cases h1 : x.chg = []
   ·exact .inl h1
   ·exact .inr (hb _ h0 (h.chg.lt h1 e))
 exact ⟨h.farm, h.before, h.after, h.chg.blocks _hs fun a e => (key a e).imp id And.left, h.n, h.c, h.z, fun a e => (key a e).imp id And.right⟩
theorem DV.chgs : Chgs DV := fun _ _ _ _ _ _ h hs hb => h.change hs hb
structure DsAt (Q : Nat → Prop) (w : World) (p : Option Addr) (D : List Dif) : Prop where
 ex : ∃ R : List RD, R.length = D.length ∧ Recs SDf w p R ∧ ∀ k (h : k < R.length) (h' : k < D.length), DV Q w R[k] D[k]
 q : ∀ a, p = some a → D = [] ∨ Q a.block
theorem DsAt.change {Q Q' : Nat → Prop} {w w' : World} {p : Option Addr} {D : List Dif} (h : DsAt Q w p D) (hs : w.heap.size ≤ w'.heap.size) (hb : ∀ b, Q b → b < w.heap.size → w'.heap[b]? = w.heap[b]? ∧ Q' b) : DsAt Q' w' p D := by
 obtain ⟨⟨R, h1, h2, h3⟩, h4⟩ := h; have hR : D = [] ↔ R = [] := by rw [← List.length_eq_zero_iff, ← List.length_eq_zero_iff, h1]
 have key : ∀ a, p = some a → D = [] ∨ (w'.heap[a.block]? = w.heap[a.block]? ∧ Q' a.block) := fun a e => by
  rcases h4 a e with h | h
  ·exact .inl h
  ·by_cases h0 : D = []
   ·exact .inl h0
   ·exact .inr (hb _ h (h2.lt (fun e => h0 (hR.2 e)) e))
 exact ⟨⟨R, h1, h2.blocks hs fun a e => (key a e).imp hR.1 And.left, fun k a b => (h3 k a b).change hs hb⟩, fun a e => (key a e).imp id And.right⟩
theorem DsAt.below {Q : Nat → Prop} {w w' : World} {p : Option Addr} {D : List Dif} (h : DsAt Q w p D) (hb : Below w.heap.size w w') : DsAt Q w' p D := h.change hb.size fun b q hl => ⟨hb.block b hl, q⟩
theorem DsAt.len {Q : Nat → Prop} {w : World} {p : Option Addr} {D : List Dif} (h : DsAt Q w p D) : D.length ≤ 9223372036854775807 := by
 obtain ⟨⟨R, h1, h2, -⟩, -⟩ := h; rw [← h1]; exact h2.len
structure DCells (w : World) (b o : Nat) (r : RD) : Prop where
 c0 : w.cell? ⟨b, o, none⟩ = some (I O r.farm)
 c1 : w.cell? ⟨b, o + 1, none⟩ = some (I O r.before)
 c2 : w.cell? ⟨b, o + 2, none⟩ = some (I O r.after)
 c3 : w.cell? ⟨b, o + 3, none⟩ = some (.slice r.p r.n r.c)
theorem DsAt.at {Q : Nat → Prop} {w : World} {p : Option Addr} {D : List Dif} (h : DsAt Q w p D) {k : Nat} (hk : k < D.length) :
  ∃ b off r, p = some ⟨b, off, none⟩ ∧ b < w.heap.size ∧ DCells w b (off + k * 4) r ∧ DV Q w r D[k] := by
 obtain ⟨⟨R, h1, h2, h3⟩, -⟩ := h; have hk' : k < R.length := by omega
 obtain ⟨b, off, e, hl, hc⟩ := h2.at hk'; exact ⟨b, off, R[k], e, hl, ⟨hc 0 _ rfl, hc 1 _ rfl, hc 2 _ rfl, hc 3 _ rfl⟩, h3 k hk' hk⟩
theorem _root_.Go.Proofs.YtmlfcpglhipjgaaGreat.RowsR.difs {B : Nat} {W : World} {v : Value} {R : List RD} {K : List Dif} (h : RowsR SDf DV 88 B W v R K) {n : Nat} (hn : K.length = n) : ∃ p c, v = .slice p n c ∧ n ≤ c ∧ (p = none → c = 0) ∧ DsAt (fun b => B ≤ b) W p K := by
 obtain ⟨p, c, e, h1, h2, h3, -, h5⟩ := h.own.cut (h.hl.trans hn); exact ⟨p, c, e, h3, fun e => (h1 e).1, ⟨R, h.hl, h5, fun k a b => (h.rows k a b).change mle fun b q _ => ⟨rfl, q.1⟩⟩, fun a ea => .inr (h2 a ea).2.2.1⟩
def lost1 (d : Dif) : Int := if d.after < d.before then d.before - d.after else 0
def got1 (d : Dif) : Int := if d.after < d.before then 0 else d.after - d.before
def lost (D : List Dif) : Int := Sh.sum (D.map lost1)
def got (D : List Dif) : Int := Sh.sum (D.map got1)
structure Mod (D : List Dif) : Prop where
 len : D.length ≤ 1000
 each : ∀ d ∈ D, 0 ≤ d.before ∧ d.before ≤ 4398046511104 ∧ 0 ≤ d.after ∧ d.after ≤ 4398046511104
theorem one_bd {D : List Dif} (h : Mod D) {d : Dif} (hd : d ∈ D) : 0 ≤ lost1 d ∧ lost1 d ≤ 4398046511104 ∧ 0 ≤ got1 d ∧ got1 d ≤ 4398046511104 := by
 have := h.each d hd; unfold lost1 got1
 by_cases hc : d.after < d.before
 ·rw [if_pos hc, if_pos hc]; omega
 ·rw [if_neg hc, if_neg hc]; omega
theorem sum_bd (f : Dif → Int) {B : Int} (hB : 0 ≤ B) : ∀ {D : List Dif}, (∀ d ∈ D, 0 ≤ f d ∧ f d ≤ B) → 0 ≤ Sh.sum (D.map f) ∧ Sh.sum (D.map f) ≤ B * D.length
 | [], _ => by simp [Sh.sum]
 | d :: D, h => by
   have ih := sum_bd f hB (D := D) fun x hx => h x (List.mem_cons_of_mem _ hx)
   have h0 := h d (List.mem_cons_self ..); have e : Sh.sum ((d :: D).map f) = f d + Sh.sum (D.map f) := rfl; rw [e, List.length_cons]; have : B * ((D.length + 1 : Nat) : Int) = B * D.length + B := by rw [Int.natCast_add]; simp [Int.mul_add]
   omega
end Re
def Re.TwoG (a b : Int) (w : World) (e : Ending) (w' : World) : Prop := e = .returned (.tuple #[I O a, I O b]) ∧ Below w.heap.size w w'
theorem balance38_any {Q : Nat → Prop} (p : Option Addr) (D : List Re.Dif) (c : Nat) (w : World) (h : Re.DsAt Q w p D) (hm : Re.Mod D) :
  Calls Tryz.prog 48 #[.slice p D.length c] w (Re.TwoG (Re.lost D) (Re.got D) w) := by
 have H := mh h; have HM := mh hm; have hlen := hm.len; have UB := mh (fun k => And.intro (Re.sum_bd Re.lost1 (B := 4398046511104) (by omega) (D := D.take k) fun d hd => ⟨(Re.one_bd hm (List.mem_of_mem_take hd)).1, (Re.one_bd hm (List.mem_of_mem_take hd)).2.1⟩) (Re.sum_bd Re.got1 (B := 4398046511104) (by omega) (D := D.take k) fun d hd => (Re.one_bd hm (List.mem_of_mem_take hd)).2.2)); clear h hm
 go_enter Tryz.func48, Tryz.ntmps48
 go_wp2
 go_loopw [4, 5, 10] (fun lv gv i W => ∃ k : Nat, k ≤ D.length ∧ i = I O k ∧ lv = I O (Re.lost (D.take k)) ∧ gv = I O (Re.got (D.take k)) ∧ Below w.heap.size w W) (fun _ _ i _ => D.length - (intOf i).toNat)
 case atStart => exact ⟨0, Nat.zero_le _, rfl, rfl, rfl, brf _ _⟩
 case round =>
  obtain ⟨wo, rfl⟩ : ∃ wo : World, wo = wr := ⟨_, rfl⟩; obtain ⟨k, hk, rfl, rfl, rfl, hb⟩ := hrel; have HB := mh hb; have hk0 : (0 : Int) ≤ (k : Int) := inn _; have ub := UB.out k; have HKL := mh (show (D.take k).length ≤ 1000 by rw [List.length_take]; omega); have hkl := HKL.out
  by_cases hlt : k < D.length
  ·have hk1 : (k : Int) < (D.length : Int) := by omega
   obtain ⟨b, off, ⟨xf, xb, xa, cp, cn, cc⟩, rfl, hbl, ⟨c0, c1, c2, c3⟩, hv⟩ := (H.out.below hb).at hlt; have hba := (brf wo.heap.size wo).alloc mle (.cells #[I O xf, I O xb, I O xa, .slice cp cn cc] 88); have HBA := mh (HB.out.trans (hba.mono HB.out.size)); have e1 := hv.before; have e2 := hv.after; have bd := HM.out.each _ (List.getElem_mem hlt); have S1 : Re.lost (D.take (k + 1)) = Re.lost (D.take k) + Re.lost1 D[k] := by unfold Re.lost; rw [tsg hlt, List.map_append]; exact Sh.sum_snoc _ _
   have S2 : Re.got (D.take (k + 1)) = Re.got (D.take k) + Re.got1 D[k] := by unfold Re.got; rw [tsg hlt, List.map_append]; exact Sh.sum_snoc _ _
   simp only at c0 c1 c2 c3 e1 e2; rw [← e1, ← e2] at bd; unfold Re.lost1 at S1; unfold Re.got1 at S2; rw [← e1, ← e2] at S1 S2; have b1 : 0 ≤ Re.lost (D.take k) ∧ Re.lost (D.take k) ≤ 4398046511104 * ((D.take k).length : Int) := ub.1; have b2 : 0 ≤ Re.got (D.take k) ∧ Re.got (D.take k) ≤ 4398046511104 * ((D.take k).length : Int) := ub.2; obtain ⟨L, eL⟩ : ∃ L, Re.lost (D.take k) = L := ⟨_, rfl⟩; obtain ⟨G, eG⟩ : ∃ G, Re.got (D.take k) = G := ⟨_, rfl⟩; rw [eL] at S1 b1 ⊢; rw [eG] at S2 b2 ⊢
   by_cases hc : xa < xb
   ·have hd : decide (xa < xb) = true := dqt hc
    rw [if_pos hc] at S1 S2; have hw1 : IntKind.i64.wrap (xb - xa) = xb - xa := by rw [IntKind.wrap_i64]; omega
    have hw2 : IntKind.i64.wrap (L + (xb - xa)) = L + (xb - xa) := by rw [IntKind.wrap_i64]; omega
    have T1 := mh S1; have T2 := mh S2; clear hv hba hb S1 S2 ub eL eG e1 e2
    go_wp2_with fail
    go_roundw
    case rel => exact ⟨k + 1, by omega, by go_num, by rw [T1.out], by rw [T2.out, Int.add_zero], HBA.out⟩
    case measure => simp [intOf]; omega
   ·have hd : decide (xa < xb) = false := dqf hc
    rw [if_neg hc] at S1 S2; have hw1 : IntKind.i64.wrap (xa - xb) = xa - xb := by rw [IntKind.wrap_i64]; omega
    have hw2 : IntKind.i64.wrap (G + (xa - xb)) = G + (xa - xb) := by rw [IntKind.wrap_i64]; omega
    have T1 := mh S1; have T2 := mh S2; clear hv hba hb S1 S2 ub eL eG e1 e2
    go_wp2_with fail
    go_roundw
    case rel => exact ⟨k + 1, by omega, by go_num, by rw [T1.out, Int.add_zero], by rw [T2.out], HBA.out⟩
    case measure => simp [intOf]; omega
  ·obtain rfl : k = D.length := by omega
   rw [List.take_length]; clear hb
   go_wp2_with fail
   go_ret2
   exact ⟨rfl, HB.out⟩
def RowG (A : List Awd) (w : World) (e : Ending) (w' : World) : Prop := ∃ p c, e = .returned (.slice p A.length c) ∧ Recs SA w' p A ∧ Below w.heap.size w w'
def Re.EqG {α : Type} (A B : List α) (w : World) (e : Ending) (w' : World) : Prop := ∃ b : Bool, e = .returned (.bool b) ∧ (b = true ↔ A = B) ∧ Below w.heap.size w w'
theorem Re.take_ne {α : Type} {A B : List α} {k : Nat} (h1 : k < A.length) (h2 : k < B.length) (h : A[k] ≠ B[k]) : A ≠ B := by
 rintro rfl; exact h rfl
theorem Re.take_eq {α : Type} {A B : List α} {k : Nat} (h1 : k < A.length) (h2 : k < B.length) (h0 : A.take k = B.take k) (h : A[k] = B[k]) : A.take (k + 1) = B.take (k + 1) := by
 rw [tsg h1, tsg h2, h0, h]
theorem eqints_any (p q : Option Addr) (A B : List Int) (c d : Nat) (w : World) (h : Ints w p A) (k : Ints w q B) : Calls Tryz.prog 118 #[.slice p A.length c, .slice q B.length d] w (Re.EqG A B w) := by
 have H := mh h; have K := mh k; have hA := h.len; have hB := k.len; clear h k
 by_cases hl : A.length = B.length
 rotate_left
 ·have hne : ((A.length : Int) != (B.length : Int)) = true := by simpa using (by omega : ¬ (A.length : Int) = (B.length : Int))
  have NE := mh (show A ≠ B from fun e => hl (by rw [e])); clear hl
  go_enter Tryz.func118, Tryz.ntmps118
  go_wp2
  go_ret
  exact ⟨false, rfl, by simpa using NE.out, brf _ _⟩
 ·obtain ⟨n, en⟩ : ∃ n, A.length = n := ⟨_, rfl⟩
  have HNA := mh en; have HNB := mh (show B.length = n by rw [← hl, en]); rw [← hl, en]; have hn : (n : Int) ≤ 9223372036854775807 := by omega
  have hne : ((n : Int) != (n : Int)) = false := by simp
  clear hl hA hB en
  go_enter Tryz.func118, Tryz.ntmps118
  go_wp2
  go_loopw [13] (fun i wr => ∃ k : Nat, k ≤ n ∧ i = I O k ∧ A.take k = B.take k ∧ Below w.heap.size w wr) (fun i _ => n - (intOf i).toNat)
  case atStart => exact ⟨0, Nat.zero_le _, rfl, rfl, brf _ _⟩
  case round =>
   obtain ⟨wo, rfl⟩ : ∃ wo : World, wo = wr := ⟨_, rfl⟩; obtain ⟨k, hk, rfl, htk, hb⟩ := hrel; have HB := mh hb; have HT := mh htk; have hk0 : (0 : Int) ≤ (k : Int) := inn _; clear htk
   by_cases hlt : k < n
   ·have hk1 : (k : Int) < (n : Int) := by omega
    have h1 : k < A.length := by rw [HNA.out]; exact hlt
    have h2 : k < B.length := by rw [HNB.out]; exact hlt
    obtain ⟨b, off, rfl, hbl, c0⟩ := (H.out.below hb).at h1; obtain ⟨b', off', rfl, hbl', d0⟩ := (K.out.below hb).at h2; have gA : A.getD k 0 = A[k] := by rw [List.getD_eq_getElem?_getD, List.getElem?_eq_getElem h1]; rfl
    have gB : B.getD k 0 = B[k] := by rw [List.getD_eq_getElem?_getD, List.getElem?_eq_getElem h2]; rfl
    rw [gA] at c0; rw [gB] at d0; have TE := mh (fun h => Re.take_eq h1 h2 HT.out h); have TN := mh (fun h => Re.take_ne h1 h2 h); obtain ⟨x, ex⟩ : ∃ x, A[k] = x := ⟨_, rfl⟩; obtain ⟨y, ey⟩ : ∃ y, B[k] = y := ⟨_, rfl⟩; rw [ex, ey] at TE TN; rw [ex] at c0; rw [ey] at d0; clear gA gB ex ey hb
    by_cases hxy : x = y
    ·have hc : (x != y) = false := by simpa using hxy
     have TT := mh (TE.out hxy); clear hxy
     go_wp2
     go_quiet (fail)
     go_wp2
     go_roundw
     case rel => exact ⟨k + 1, by omega, by go_num, TT.out, bnext HB.out HB.out.size (drewN_below _ _)⟩
     case measure => simp [intOf]; omega
    ·have hc : (x != y) = true := by simpa using hxy
     have NE := mh (TN.out hxy); clear hxy
     go_wp2
     go_quiet (fail)
     go_wp2
     go_ret
     exact ⟨false, rfl, by simpa using NE.out, bnext HB.out HB.out.size (drewN_below _ _)⟩
   ·obtain rfl : k = n := by omega
    have EQ := mh (show A = B by have := HT.out; rw [List.take_of_length_le (by rw [HNA.out]; exact Nat.le_refl _), List.take_of_length_le (by rw [HNB.out]; exact Nat.le_refl _)] at this; exact this); clear hb
    go_wp2
    go_ret
    exact ⟨true, rfl, by simpa using EQ.out, HB.out⟩
theorem eqawds_any (p q : Option Addr) (A B : List Awd) (c d : Nat) (w : World) (h : Recs SA w p A) (k : Recs SA w q B) : Calls Tryz.prog 125 #[.slice p A.length c, .slice q B.length d] w (Re.EqG A B w) := by
 have H := mh h; have K := mh k; have hA := h.len; have hB := k.len; clear h k
 by_cases hl : A.length = B.length
 rotate_left
 ·have hne : ((A.length : Int) != (B.length : Int)) = true := by simpa using (by omega : ¬ (A.length : Int) = (B.length : Int))
  have NE := mh (show A ≠ B from fun e => hl (by rw [e])); clear hl
  go_enter Tryz.func125, Tryz.ntmps125
  go_wp2
  go_ret
  exact ⟨false, rfl, by simpa using NE.out, brf _ _⟩
 ·obtain ⟨n, en⟩ : ∃ n, A.length = n := ⟨_, rfl⟩
  have HNA := mh en; have HNB := mh (show B.length = n by rw [← hl, en]); rw [← hl, en]; have hn : (n : Int) ≤ 9223372036854775807 := by omega
  have hne : ((n : Int) != (n : Int)) = false := by simp
  clear hl hA hB en
  go_enter Tryz.func125, Tryz.ntmps125
  go_wp2
  go_loopw [13] (fun i wr => ∃ k : Nat, k ≤ n ∧ i = I O k ∧ A.take k = B.take k ∧ Below w.heap.size w wr) (fun i _ => n - (intOf i).toNat)
  case atStart => exact ⟨0, Nat.zero_le _, rfl, rfl, brf _ _⟩
  case round =>
   obtain ⟨wo, rfl⟩ : ∃ wo : World, wo = wr := ⟨_, rfl⟩; obtain ⟨k, hk, rfl, htk, hb⟩ := hrel; have HB := mh hb; have HT := mh htk; have hk0 : (0 : Int) ≤ (k : Int) := inn _; clear htk
   by_cases hlt : k < n
   ·have hk1 : (k : Int) < (n : Int) := by omega
    have h1 : k < A.length := by rw [HNA.out]; exact hlt
    have h2 : k < B.length := by rw [HNB.out]; exact hlt
    obtain ⟨b, off, rfl, hbl, ⟨c0, c1, c2, c3, c4, c5, c6, c7, c8⟩⟩ := SA_at (H.out.below hb) h1; obtain ⟨b', off', rfl, hbl', ⟨d0, d1, d2, d3, d4, d5, d6, d7, d8⟩⟩ := SA_at (K.out.below hb) h2; have TE := mh (fun h => Re.take_eq h1 h2 HT.out h); have TN := mh (fun h => Re.take_ne h1 h2 h); obtain ⟨⟨a1, a2, a3, a4, a5, a6, a7, a8, a9⟩, ex⟩ : ∃ x, A[k] = x := ⟨_, rfl⟩; obtain ⟨⟨b1, b2, b3, b4, b5, b6, b7, b8, b9⟩, ey⟩ : ∃ y, B[k] = y := ⟨_, rfl⟩; rw [ex, ey] at TE TN; rw [ex] at c0 c1 c2 c3 c4 c5 c6 c7 c8; rw [ey] at d0 d1 d2 d3 d4 d5 d6 d7 d8; simp only at c0 c1 c2 c3 c4 c5 c6 c7 c8 d0 d1 d2 d3 d4 d5 d6 d7 d8; clear ex ey hb
    by_cases hxy : (⟨a1, a2, a3, a4, a5, a6, a7, a8, a9⟩ : Awd) = ⟨b1, b2, b3, b4, b5, b6, b7, b8, b9⟩
    ·have TT := mh (TE.out hxy)
     cases hxy
     go_wp2
     go_quiet (fail)
     go_wp2
     go_roundw
     case rel => exact ⟨k + 1, by omega, by go_num, TT.out, bnext HB.out HB.out.size (drewN_below _ _)⟩
     case measure => simp [intOf]; omega
    ·have NE := mh (TN.out hxy)
     have HC := mh hxy; clear hxy
     by_cases e1 : a1 = b1
     rotate_left
     ·have hc : (a1 == b1) = false := by simpa using e1
      have hd : (a1 != b1) = true := by simpa using e1
      clear e1
      go_wp2
      go_quiet (fail)
      go_wp2
      go_ret
      exact ⟨false, rfl, by simpa using NE.out, bnext HB.out HB.out.size (drewN_below _ _)⟩
     subst e1
     by_cases e2 : a2 = b2
     rotate_left
     ·have hc : (a2 == b2) = false := by simpa using e2
      have hd : (a2 != b2) = true := by simpa using e2
      clear e2
      go_wp2
      go_quiet (fail)
      go_wp2
      go_ret
      exact ⟨false, rfl, by simpa using NE.out, bnext HB.out HB.out.size (drewN_below _ _)⟩
     subst e2
     by_cases e3 : a3 = b3
     rotate_left
     ·have hc : (a3 == b3) = false := by simpa using e3
      have hd : (a3 != b3) = true := by simpa using e3
      clear e3
      go_wp2
      go_quiet (fail)
      go_wp2
      go_ret
      exact ⟨false, rfl, by simpa using NE.out, bnext HB.out HB.out.size (drewN_below _ _)⟩
     subst e3
     by_cases e4 : a4 = b4
     rotate_left
     ·have hc : (a4 == b4) = false := by simpa using e4
      have hd : (a4 != b4) = true := by simpa using e4
      clear e4
      go_wp2
      go_quiet (fail)
      go_wp2
      go_ret
      exact ⟨false, rfl, by simpa using NE.out, bnext HB.out HB.out.size (drewN_below _ _)⟩
     subst e4
     by_cases e5 : a5 = b5
     rotate_left
     ·have hc : (a5 == b5) = false := by simpa using e5
      have hd : (a5 != b5) = true := by simpa using e5
      clear e5
      go_wp2
      go_quiet (fail)
      go_wp2
      go_ret
      exact ⟨false, rfl, by simpa using NE.out, bnext HB.out HB.out.size (drewN_below _ _)⟩
     subst e5
     by_cases e6 : a6 = b6
     rotate_left
     ·have hc : (a6 == b6) = false := by simpa using e6
      have hd : (a6 != b6) = true := by simpa using e6
      clear e6
      go_wp2
      go_quiet (fail)
      go_wp2
      go_ret
      exact ⟨false, rfl, by simpa using NE.out, bnext HB.out HB.out.size (drewN_below _ _)⟩
     subst e6
     by_cases e7 : a7 = b7
     rotate_left
     ·have hc : (a7 == b7) = false := by simpa using e7
      have hd : (a7 != b7) = true := by simpa using e7
      clear e7
      go_wp2
      go_quiet (fail)
      go_wp2
      go_ret
      exact ⟨false, rfl, by simpa using NE.out, bnext HB.out HB.out.size (drewN_below _ _)⟩
     subst e7
     by_cases e8 : a8 = b8
     rotate_left
     ·have hc : (a8 == b8) = false := by simpa using e8
      have hd : (a8 != b8) = true := by simpa using e8
      clear e8
      go_wp2
      go_quiet (fail)
      go_wp2
      go_ret
      exact ⟨false, rfl, by simpa using NE.out, bnext HB.out HB.out.size (drewN_below _ _)⟩
     subst e8
     by_cases e9 : a9 = b9
     rotate_left
     ·have hc : (a9 == b9) = false := by simpa using e9
      have hd : (a9 != b9) = true := by simpa using e9
      clear e9
      go_wp2
      go_quiet (fail)
      go_wp2
      go_ret
      exact ⟨false, rfl, by simpa using NE.out, bnext HB.out HB.out.size (drewN_below _ _)⟩
     subst e9; exact absurd rfl HC.out
   ·obtain rfl : k = n := by omega
    have EQ := mh (show A = B by have := HT.out; rw [List.take_of_length_le (by rw [HNA.out]; exact Nat.le_refl _), List.take_of_length_le (by rw [HNB.out]; exact Nat.le_refl _)] at this; exact this); clear hb
    go_wp2
    go_ret
    exact ⟨true, rfl, by simpa using EQ.out, HB.out⟩
end Go.Proofs.YtmlfcpglhipjgaaGreat
