/-
  PACKED (pack8.py): what is needed of the texts Fe.
-/
import Derived.Test.YtmlfcpglhipjgaaGreatY0
import Derived.Test.YtmlfcpglhipjgaaGreatY1
import Derived.Test.YtmlfcpglhipjgaaGreatY4
import Derived.Test.YtmlfcpglhipjgaaGreatY6
import Derived.Test.YtmlfcpglhipjgaaGreatY7
import Derived.Test.YtmlfcpglhipjgaaGreatY9
import Derived.Test.YtmlfcpglhipjgaaGreatY13
import Derived.Test.YtmlfcpglhipjgaaGreatY17
import Derived.Test.YtmlfcpglhipjgaaGreatY19
import Derived.Test.YtmlfcpglhipjgaaGreatY26
import Derived.Test.YtmlfcpglhipjgaaGreatY29
import Derived.Test.YtmlfcpglhipjgaaGreatY30
import Derived.Test.YtmlfcpglhipjgaaGreatY31
set_option maxRecDepth 100000
set_option maxHeartbeats 8000000
namespace Go.Proofs.YtmlfcpglhipjgaaGreat.Sc
end Go.Proofs.YtmlfcpglhipjgaaGreat.Sc
namespace Go.Proofs.YtmlfcpglhipjgaaGreat.As
end Go.Proofs.YtmlfcpglhipjgaaGreat.As
namespace Go.Proofs.YtmlfcpglhipjgaaGreat
open Go.RowKit Sc As
theorem recomputeFactor_walk_of (AW : ∀ w : World, Calls Tryz.prog 38 #[] w fun e w' => e = .returned (.bool true) ∧ Below w.heap.size w w') (a : Option Addr) (len cap : Nat) (z : List Int) (w : World) (w0 : IsRow .i64 w a len cap z) :
  Calls Tryz.prog 13 #[.slice a len cap] w fun e w' => e = .returned (.bool true) ∧ Below w.heap.size w w' := by
 obtain ⟨hIr, hLr⟩ := w0.ints; have NW := mh (new_any a len cap z w w0); obtain ⟨l, el⟩ : ∃ l, (z.take len).take 400 = l := ⟨_, rfl⟩; rw [el] at NW; clear el hIr hLr w0
 go_enter Tryz.func13, Tryz.ntmps13
 go_wp2_with fail
 (with_reducible refine cmo NW.out ?_); rintro e w1 ⟨rfl, ht1, hb1⟩; have LW := mh (law2_any w.heap.size l 0 w1 ht1); have HT1 := mh ht1.lt; have HB1 := mh hb1; clear NW ht1 hb1
 go_wp2_with fail
 (with_reducible refine cmo LW.out ?_); rintro e w2 ⟨d, r, Y, q, rfl, hy, hok, hlen, hdue, hsm, hp⟩; have O2 := mh (Opn.init (T := 29) HB1.out HT1.out hy hok hlen hdue hsm hp rfl); clear hy hok hlen hdue hsm hp LW; obtain ⟨sp, sn, sc, tp, tn, tc, ldue, llast, lmille, gp, gn, gc, cp, ev, un, wd⟩ := r; simp only [yCells] at O2 ⊢; obtain ⟨g, eg⟩ : ∃ g, w2.heap.size = g := ⟨_, rfl⟩; rw [eg] at O2; have FM := mh (O2.out.farms 3 (by omega)); simp only [yCells] at FM
 go_wp2_with fail
 clear eg; generalize w2.alloc (.cells #[.slice sp sn sc, .slice tp tn tc, .int .i64 ldue, .int .i64 llast, .int .i64 lmille, .slice gp gn gc, .int .i64 cp, .int .i64 ev, .int .i64 un, .int .i64 wd] 29) = w3 at *; (with_reducible refine cmo FM.out ?_); rintro e w4 ⟨p, F, capF, q4, rfl, hcF, hO4, hF4, -⟩; have O4 := mh hO4; have F4 := mh hF4; clear FM hO4 hF4 O2 hcF; have FC := mh (factor38_any d _ Y p F capF w4 O4.out.yv F4.out.at_); have AS := mh (fun (W : World) (hb : Below w4.heap.size w4 W) => assess34_any d _ Y p F capF W (O4.out.yv.below hb) (F4.out.at_.below hb)); simp only [yCells] at FC AS; unfold AsG at AS; unfold Re.FcG at FC; have FL := mh (fun h => F4.out.falls h); have RF := mh (fun h => Re.fac_law (l := Y) (F := F) h); obtain ⟨E, eE⟩ : ∃ E, assErr Y F = E := ⟨_, rfl⟩; rw [eE] at FL RF FC; simp only [eE] at AS; clear eE; have VB := O4.out.vb; simp only [yCells] at VB; have y0 := VB.cell 0; have y1 := VB.cell 1; have y2 := VB.cell 2; have y3 := VB.cell 3; have y4 := VB.cell 4; have y5 := VB.cell 5; have y6 := VB.cell 6; have y7 := VB.cell 7; have y8 := VB.cell 8; have y9 := VB.cell 9; clear VB
 go_wp2_with fail
 (with_reducible refine cmo FC.out ?_); rintro e w5 ⟨N, D, rfl, hnd, hb5⟩; have HND := mh hnd; have HB5 := mh hb5; have O5 := mh (O4.out.below hb5); clear hnd hb5 y0 y1 y2 y3 y4 y5 y6 y7 y8 y9 FC; have VB := O5.out.vb; simp only [yCells] at VB; have y0 := VB.cell 0; have y1 := VB.cell 1; have y2 := VB.cell 2; have y3 := VB.cell 3; have y4 := VB.cell 4; have y5 := VB.cell 5; have y6 := VB.cell 6; have y7 := VB.cell 7; have y8 := VB.cell 8; have y9 := VB.cell 9; clear VB
 go_wp2_with fail
 (with_reducible refine cmo (AS.out w5 HB5.out) ?_); rintro e w6 ⟨va, rfl, hoa, hb6⟩; have O6 := mh (O5.out.below hb6); have OA6 := mh hoa; clear hoa hb6 AS y0 y1 y2 y3 y4 y5 y6 y7 y8 y9
 by_cases h1 : E = 0
 rotate_left
 ·have e1 : (E != 0) = true := by simpa using h1
  clear h1
  go_wp2_with (first | (go_at_call 38; (with_reducible refine cmo (AW _) ?_); rintro e w9 ⟨rfl, hb9⟩; have HB9 := mh (bnext O6.out.low O6.out.low.size hb9); clear hb9) | fail)
  go_ret
  exact ⟨rfl, HB9.out⟩
 subst h1; have FA := mh (FL.out rfl); obtain ⟨q1, q2, q3, q4', q5, q6⟩ := RF.out rfl; obtain ⟨m1, m2⟩ := HND.out rfl; rw [← m1] at q2 q3 q4' q5; rw [← m2] at q1 q2 q3 q4' q6; obtain ⟨A, eA⟩ : ∃ A, assess Y F = A := ⟨_, rfl⟩; rw [eA] at q4' FA OA6; obtain ⟨nA, enA⟩ : ∃ n, A.length = n := ⟨_, rfl⟩; obtain ⟨pa, ca, rfl, -, -, -, -, hra⟩ := OA6.out.cut enA; have RA := mh hra; have HNA := mh enA; have hAL := FA.out.len; rw [enA] at hAL; have hun := O6.out.yv.unit; simp only at hun; have HUN := mh (show 1 ≤ un ∧ un ≤ 100000 by rw [hun]; exact O6.out.ok.unit); have hun1 := HUN.out.1
 have UB := mh (fun k => usum_bd (u := un) hun1 (xs := cappeds (A.take k)) fun x hx => by
  obtain ⟨b, hb, rfl⟩ := List.mem_map.1 hx; have := FA.out.each b (List.mem_of_mem_take hb)
  omega)
 have hevv : ev = Y.env := O6.out.yv.env; rw [← hevv, ← hun] at q4'; have NEV := mh hevv; have T3 := mh q3; have T4 := mh q4'; have hN0 : (0 : Int) ≤ (N : Int) := inn _; have hD0 : (1 : Int) ≤ (D : Int) := by omega
 have hND : (N : Int) ≤ (D : Int) := by omega
 have g1 : decide ((N : Int) < 0) = false := dqf (by omega); have g2 : decide ((D : Int) < 1) = false := dqf (by omega); have g3 : decide ((D : Int) < (N : Int)) = false := dqf (by omega); have g4 : decide (D < 1) = false := dqf (by omega); have g5 : decide (D < N) = false := dqf (by omega); have g6 : (D == 0) = false := by rw [beq_eq_false_iff_ne]; omega
 clear hun hevv hra enA OA6 eA m1 m2 q3 q4' FL RF HND q1
 go_wp2_with fail
 go_loopw [11] (fun kv W => ∃ k : Nat, 2 ≤ k ∧ k ≤ 50 ∧ kv = .int .i64 k ∧ Below w6.heap.size w6 W) (fun kv _ => 50 - (intOf kv).toNat)
 case atStart => exact ⟨2, Nat.le_refl _, by omega, rfl, brf _ _⟩
 case round =>
  obtain ⟨wo, rfl⟩ : ∃ wo : World, wo = wr := ⟨_, rfl⟩; obtain ⟨k, hk2, hk, rfl, hb⟩ := hrel; have HB := mh hb; have OO := mh (O6.out.below hb); have hk0 : (0 : Int) ≤ (k : Int) := inn _; have hk3 : (2 : Int) ≤ (k : Int) := by omega
  clear hb
  by_cases c1 : k ≤ N
  ·have d1 : decide ((k : Int) ≤ (N : Int)) = true := dqt (by omega)
   have d1n : decide (k ≤ N) = true := dqt c1
   by_cases c2 : k < 50
   ·have d2 : decide ((k : Int) < 50) = true := dqt (by omega)
    have d2n : decide (k < 50) = true := dqt c2; have hz : ((k : Int) == 0) = false := by rw [beq_eq_false_iff_ne]; omega
    have TK := T3.out k hk2; have rN : (N : Int) % (k : Int) = ((N % k : Nat) : Int) := (Int.natCast_emod N k).symm; have rD : (D : Int) % (k : Int) = ((D % k : Nat) : Int) := (Int.natCast_emod D k).symm
    by_cases r1 : N % k = 0
    ·have r2 : D % k ≠ 0 := fun h => TK ⟨r1, h⟩
     have b1 : ((N : Int) % (k : Int) == 0) = true := by rw [rN, r1]; rfl
     have b2 : ((D : Int) % (k : Int) == 0) = false := by rw [rD, beq_eq_false_iff_ne]; omega
     clear TK r1 r2 rN rD
     go_wp2_with fail
     go_roundw
     case rel => exact ⟨k + 1, by omega, by omega, by go_num, HB.out⟩
     case measure => simp [intOf]; omega
    ·have b1 : ((N : Int) % (k : Int) == 0) = false := by rw [rN, beq_eq_false_iff_ne]; omega
     clear TK r1 rN rD
     go_wp2_with fail
     go_roundw
     case rel => exact ⟨k + 1, by omega, by omega, by go_num, HB.out⟩
     case measure => simp [intOf]; omega
   ·have d2 : decide ((k : Int) < 50) = false := dqf (by omega)
    have d2n : decide (k < 50) = false := dqf c2
    go_wp2_with fail
    go_loopw [12, 79] (fun u i W => ∃ j : Nat, j ≤ nA ∧ i = .int .i64 j ∧ u = .int .i64 (En.usum un (cappeds (A.take j))) ∧ Below wo.heap.size wo W) (fun _ i _ => nA - (intOf i).toNat)
    case atStart => exact ⟨0, Nat.zero_le _, rfl, rfl, brf _ _⟩
    case round =>
     obtain ⟨wp, rfl⟩ : ∃ wp : World, wp = wr := ⟨_, rfl⟩; obtain ⟨j, hj, rfl, rfl, hb2⟩ := hrel; have HB2 := mh hb2; have OP := mh (OO.out.below hb2); have RO := mh ((RA.out.below HB.out).below hb2); have hj0 : (0 : Int) ≤ (j : Int) := inn _
     by_cases hlt : j < nA
     ·have hj1 : (j : Int) < (nA : Int) := by omega
      have hkA : j < A.length := by rw [HNA.out]; exact hlt
      obtain ⟨b, off, rfl, hbl, ⟨c0, c1, c2, c3, c4, c5, c6, c7, c8⟩⟩ := SA_at RO.out hkA; have ub := UB.out j; have ub1 := UB.out (j + 1); have hcl : (cappeds (A.take j)).length ≤ 64 := by unfold cappeds; rw [List.length_map, List.length_take]; omega
      have hcl1 : (cappeds (A.take (j + 1))).length ≤ 64 := by unfold cappeds; rw [List.length_map, List.length_take]; omega
      have ST := mh (show cappeds (A.take (j + 1)) = cappeds (A.take j) ++ [A[j].capped] from by
       rw [tsg hkA]; unfold cappeds; rw [List.map_append]; rfl)
      have EV := FA.out.each _ (List.getElem_mem hkA); obtain ⟨x, ex⟩ : ∃ x, A[j] = x := ⟨_, rfl⟩; rw [ex] at c0 c1 c2 c3 c4 c5 c6 c7 c8 ST EV; have v8 := EV.2.2.2.2.2.2.2.1; have v9 := EV.2.2.2.2.2.2.2.2; have hq0 : 0 ≤ x.capped / un := Int.ediv_nonneg v8 (by omega); have hq1 : x.capped / un ≤ 68719476736 := Int.le_trans (Int.ediv_le_self _ v8) v9; have SU := mh (show En.usum un (cappeds (A.take (j + 1))) = En.usum un (cappeds (A.take j)) + x.capped / un from by rw [ST.out, usum_snoc]); rw [SU.out] at ub1; obtain ⟨U, eU⟩ : ∃ U, En.usum un (cappeds (A.take j)) = U := ⟨_, rfl⟩; rw [eU] at ub ub1 SU ⊢; have hw1 : IntKind.i64.wrap (U + x.capped / un) = U + x.capped / un := by rw [IntKind.wrap_i64]; omega
      have hba := (brf wp.heap.size wp).alloc mle (.cells #[.int .i64 x.farm, .int .i64 x.scheme, .int .i64 x.decl, .int .i64 x.det, .int .i64 x.paid, .int .i64 x.rated, .int .i64 x.timely, .int .i64 x.capped, .int .i64 x.due] 60); have OA := mh (OP.out.below hba); have HBA := mh (HB2.out.trans (hba.mono HB2.out.size)); have VB := OA.out.vb; simp only [yCells] at VB; have y0 := VB.cell 0; have y1 := VB.cell 1; have y2 := VB.cell 2; have y3 := VB.cell 3; have y4 := VB.cell 4; have y5 := VB.cell 5; have y6 := VB.cell 6; have y7 := VB.cell 7; have y8 := VB.cell 8; have y9 := VB.cell 9; clear VB; clear hba ex eU EV ub ub1 hcl hcl1 hbl hb2
      go_wp2_with fail
      go_roundw
      case rel => exact ⟨j + 1, by omega, by go_num, by rw [SU.out], HBA.out⟩
      case measure => simp [intOf]; omega
     ·obtain rfl : j = nA := by omega
      have ETA : A.take j = A := by rw [← HNA.out, List.take_length]
      rw [ETA]; have hev := OP.out.ok.env; rw [← NEV.out] at hev; have hev0 := hev.1; have hev1 := hev.2; obtain ⟨U, eU⟩ : ∃ U, En.usum un (cappeds A) = U := ⟨_, rfl⟩; have T5 := T4.out; rw [eU] at T5 ⊢; have VB := OP.out.vb; simp only [yCells] at VB; have y0 := VB.cell 0; have y1 := VB.cell 1; have y2 := VB.cell 2; have y3 := VB.cell 3; have y4 := VB.cell 4; have y5 := VB.cell 5; have y6 := VB.cell 6; have y7 := VB.cell 7; have y8 := VB.cell 8; have y9 := VB.cell 9; clear VB; clear eU ETA hev hb2 hj hlt hj0
      by_cases hq : U ≤ ev / un
      ·have s2 : decide (U ≤ ev / un) = true := dqt hq
       obtain ⟨z1, z2⟩ := T5.2 hq; have z1b : ((N : Int) == 1) = true := by simpa using (show (N : Int) = 1 by omega)
       have z2b : ((D : Int) == 1) = true := by simpa using (show (D : Int) = 1 by omega)
       have z1c : (N == 1) = true := by simpa using z1
       have z2c : (D == 1) = true := by simpa using z2
       clear hq T5 z1 z2
       go_wp2_with (first | (go_at_call 38; (with_reducible refine cmo (AW _) ?_); rintro e w9 ⟨rfl, hb9⟩; have HB9 := mh (bnext OP.out.low OP.out.low.size hb9); clear hb9) | fail)
       go_ret
       exact ⟨rfl, HB9.out⟩
      ·have s2 : decide (U ≤ ev / un) = false := dqf hq
       have z3 : ¬ (N = 1 ∧ D = 1) := fun h => hq (T5.1 h)
       clear T5 hq
       by_cases z1 : N = 1
       ·have z1b : ((N : Int) == 1) = true := by simpa using (show (N : Int) = 1 by omega)
        have z1c : (N == 1) = true := by simpa using z1
        have z2 : D ≠ 1 := fun h => z3 ⟨z1, h⟩
        have z2b : ((D : Int) == 1) = false := by rw [beq_eq_false_iff_ne]; omega
        have z2c : (D == 1) = false := by rw [beq_eq_false_iff_ne]; exact z2
        clear z1 z2 z3
        go_wp2_with (first | (go_at_call 38; (with_reducible refine cmo (AW _) ?_); rintro e w9 ⟨rfl, hb9⟩; have HB9 := mh (bnext OP.out.low OP.out.low.size hb9); clear hb9) | fail)
        go_ret
        exact ⟨rfl, HB9.out⟩
       ·have z1b : ((N : Int) == 1) = false := by rw [beq_eq_false_iff_ne]; omega
        have z1c : (N == 1) = false := by rw [beq_eq_false_iff_ne]; exact z1
        clear z1 z3
        go_wp2_with (first | (go_at_call 38; (with_reducible refine cmo (AW _) ?_); rintro e w9 ⟨rfl, hb9⟩; have HB9 := mh (bnext OP.out.low OP.out.low.size hb9); clear hb9) | fail)
        go_ret
        exact ⟨rfl, HB9.out⟩
  ·have d1 : decide ((k : Int) ≤ (N : Int)) = false := dqf (by omega)
   have d1n : decide (k ≤ N) = false := dqf c1
   go_wp2_with fail
   go_loopw [12, 79] (fun u i W => ∃ j : Nat, j ≤ nA ∧ i = .int .i64 j ∧ u = .int .i64 (En.usum un (cappeds (A.take j))) ∧ Below wo.heap.size wo W) (fun _ i _ => nA - (intOf i).toNat)
   case atStart => exact ⟨0, Nat.zero_le _, rfl, rfl, brf _ _⟩
   case round =>
    obtain ⟨wp, rfl⟩ : ∃ wp : World, wp = wr := ⟨_, rfl⟩; obtain ⟨j, hj, rfl, rfl, hb2⟩ := hrel; have HB2 := mh hb2; have OP := mh (OO.out.below hb2); have RO := mh ((RA.out.below HB.out).below hb2); have hj0 : (0 : Int) ≤ (j : Int) := inn _
    by_cases hlt : j < nA
    ·have hj1 : (j : Int) < (nA : Int) := by omega
     have hkA : j < A.length := by rw [HNA.out]; exact hlt
     obtain ⟨b, off, rfl, hbl, ⟨c0, c1, c2, c3, c4, c5, c6, c7, c8⟩⟩ := SA_at RO.out hkA; have ub := UB.out j; have ub1 := UB.out (j + 1); have hcl : (cappeds (A.take j)).length ≤ 64 := by unfold cappeds; rw [List.length_map, List.length_take]; omega
     have hcl1 : (cappeds (A.take (j + 1))).length ≤ 64 := by unfold cappeds; rw [List.length_map, List.length_take]; omega
     have ST := mh (show cappeds (A.take (j + 1)) = cappeds (A.take j) ++ [A[j].capped] from by
      rw [tsg hkA]; unfold cappeds; rw [List.map_append]; rfl)
     have EV := FA.out.each _ (List.getElem_mem hkA); obtain ⟨x, ex⟩ : ∃ x, A[j] = x := ⟨_, rfl⟩; rw [ex] at c0 c1 c2 c3 c4 c5 c6 c7 c8 ST EV; have v8 := EV.2.2.2.2.2.2.2.1; have v9 := EV.2.2.2.2.2.2.2.2; have hq0 : 0 ≤ x.capped / un := Int.ediv_nonneg v8 (by omega); have hq1 : x.capped / un ≤ 68719476736 := Int.le_trans (Int.ediv_le_self _ v8) v9; have SU := mh (show En.usum un (cappeds (A.take (j + 1))) = En.usum un (cappeds (A.take j)) + x.capped / un from by rw [ST.out, usum_snoc]); rw [SU.out] at ub1; obtain ⟨U, eU⟩ : ∃ U, En.usum un (cappeds (A.take j)) = U := ⟨_, rfl⟩; rw [eU] at ub ub1 SU ⊢; have hw1 : IntKind.i64.wrap (U + x.capped / un) = U + x.capped / un := by rw [IntKind.wrap_i64]; omega
     have hba := (brf wp.heap.size wp).alloc mle (.cells #[.int .i64 x.farm, .int .i64 x.scheme, .int .i64 x.decl, .int .i64 x.det, .int .i64 x.paid, .int .i64 x.rated, .int .i64 x.timely, .int .i64 x.capped, .int .i64 x.due] 60); have OA := mh (OP.out.below hba); have HBA := mh (HB2.out.trans (hba.mono HB2.out.size)); have VB := OA.out.vb; simp only [yCells] at VB; have y0 := VB.cell 0; have y1 := VB.cell 1; have y2 := VB.cell 2; have y3 := VB.cell 3; have y4 := VB.cell 4; have y5 := VB.cell 5; have y6 := VB.cell 6; have y7 := VB.cell 7; have y8 := VB.cell 8; have y9 := VB.cell 9; clear VB; clear hba ex eU EV ub ub1 hcl hcl1 hbl hb2
     go_wp2_with fail
     go_roundw
     case rel => exact ⟨j + 1, by omega, by go_num, by rw [SU.out], HBA.out⟩
     case measure => simp [intOf]; omega
    ·obtain rfl : j = nA := by omega
     have ETA : A.take j = A := by rw [← HNA.out, List.take_length]
     rw [ETA]; have hev := OP.out.ok.env; rw [← NEV.out] at hev; have hev0 := hev.1; have hev1 := hev.2; obtain ⟨U, eU⟩ : ∃ U, En.usum un (cappeds A) = U := ⟨_, rfl⟩; have T5 := T4.out; rw [eU] at T5 ⊢; have VB := OP.out.vb; simp only [yCells] at VB; have y0 := VB.cell 0; have y1 := VB.cell 1; have y2 := VB.cell 2; have y3 := VB.cell 3; have y4 := VB.cell 4; have y5 := VB.cell 5; have y6 := VB.cell 6; have y7 := VB.cell 7; have y8 := VB.cell 8; have y9 := VB.cell 9; clear VB; clear eU ETA hev hb2 hj hlt hj0
     by_cases hq : U ≤ ev / un
     ·have s2 : decide (U ≤ ev / un) = true := dqt hq
      obtain ⟨z1, z2⟩ := T5.2 hq; have z1b : ((N : Int) == 1) = true := by simpa using (show (N : Int) = 1 by omega)
      have z2b : ((D : Int) == 1) = true := by simpa using (show (D : Int) = 1 by omega)
      have z1c : (N == 1) = true := by simpa using z1
      have z2c : (D == 1) = true := by simpa using z2
      clear hq T5 z1 z2
      go_wp2_with (first | (go_at_call 38; (with_reducible refine cmo (AW _) ?_); rintro e w9 ⟨rfl, hb9⟩; have HB9 := mh (bnext OP.out.low OP.out.low.size hb9); clear hb9) | fail)
      go_ret
      exact ⟨rfl, HB9.out⟩
     ·have s2 : decide (U ≤ ev / un) = false := dqf hq
      have z3 : ¬ (N = 1 ∧ D = 1) := fun h => hq (T5.1 h)
      clear T5 hq
      by_cases z1 : N = 1
      ·have z1b : ((N : Int) == 1) = true := by simpa using (show (N : Int) = 1 by omega)
       have z1c : (N == 1) = true := by simpa using z1
       have z2 : D ≠ 1 := fun h => z3 ⟨z1, h⟩
       have z2b : ((D : Int) == 1) = false := by rw [beq_eq_false_iff_ne]; omega
       have z2c : (D == 1) = false := by rw [beq_eq_false_iff_ne]; exact z2
       clear z1 z2 z3
       go_wp2_with (first | (go_at_call 38; (with_reducible refine cmo (AW _) ?_); rintro e w9 ⟨rfl, hb9⟩; have HB9 := mh (bnext OP.out.low OP.out.low.size hb9); clear hb9) | fail)
       go_ret
       exact ⟨rfl, HB9.out⟩
      ·have z1b : ((N : Int) == 1) = false := by rw [beq_eq_false_iff_ne]; omega
       have z1c : (N == 1) = false := by rw [beq_eq_false_iff_ne]; exact z1
       clear z1 z3
       go_wp2_with (first | (go_at_call 38; (with_reducible refine cmo (AW _) ?_); rintro e w9 ⟨rfl, hb9⟩; have HB9 := mh (bnext OP.out.low OP.out.low.size hb9); clear hb9) | fail)
       go_ret
       exact ⟨rfl, HB9.out⟩
end Go.Proofs.YtmlfcpglhipjgaaGreat
