/-
  PACKED (pack8.py): what is needed of the texts Fk.
-/
import Derived.Test.YtmlfcpglhipjgaaGreatB35
import Derived.Test.YtmlfcpglhipjgaaGreatB41
import Derived.Test.YtmlfcpglhipjgaaGreatB42
import Derived.Test.YtmlfcpglhipjgaaGreatB43
set_option maxRecDepth 100000
set_option maxHeartbeats 8000000
open Go.Value renaming int → I
open Go.IntKind renaming i64 → O
namespace Go.Proofs.YtmlfcpglhipjgaaGreat
open Go.RowKit Sc As
theorem recomputeBack_walk (a : Option Addr) (len cap : Nat) (z : List Int) (w : World) (w0 : IsRow .i64 w a len cap z) :
  Calls Tryz.prog 14 #[.slice a len cap] w fun e w' => e = .returned (.bool true) ∧ Below w.heap.size w w' := by
 obtain ⟨hIr, hLr⟩ := w0.ints; have NW := mh (new_any a len cap z w w0); obtain ⟨l, el⟩ : ∃ l, (z.take len).take 400 = l := ⟨_, rfl⟩; rw [el] at NW; clear el hIr hLr w0
 go_enter Tryz.func14, Tryz.ntmps14
 go_wp2_with fail
 (with_reducible refine cmo NW.out ?_); rintro e w1 ⟨rfl, ht1, hb1⟩; have LW := mh (law2_any w.heap.size l 0 w1 ht1); have HT1 := mh ht1.lt; have HB1 := mh hb1; clear NW ht1 hb1
 go_wp2_with fail
 (with_reducible refine cmo LW.out ?_); rintro e w2 ⟨d, r, Y, q, rfl, hy, hok, hlen, hdue, hsm, hp⟩; have O2 := mh (Opn.init (T := 29) HB1.out HT1.out hy hok hlen hdue hsm hp rfl); clear hy hok hlen hdue hsm hp LW; obtain ⟨sp, sn, sc, tp, tn, tc, ldue, llast, lmille, gp, gn, gc, cp, ev, un, wd⟩ := r; simp only [yCells] at O2 ⊢; obtain ⟨g, eg⟩ : ∃ g, w2.heap.size = g := ⟨_, rfl⟩; rw [eg] at O2; have FM := mh (O2.out.farms 3 (by omega)); simp only [yCells] at FM
 go_wp2_with fail
 clear eg; generalize w2.alloc (.cells #[.slice sp sn sc, .slice tp tn tc, I O ldue, I O llast, I O lmille, .slice gp gn gc, I O cp, I O ev, I O un, I O wd] 29) = w3 at *; (with_reducible refine cmo FM.out ?_); rintro e w4 ⟨p, F, capF, q4, rfl, hcF, hO4, hF4, -⟩; have O4 := mh hO4; have F4 := mh hF4; have HCF := mh hcF; clear hcF; clear FM hO4 hF4 O2; have CC := mh (corr2_any (Q := fun b => w.heap.size < b) d w.heap.size l q4 _ Y p F capF w4 O4.out.tape (fun b k => by omega) O4.out.yv O4.out.ok F4.out.at_ F4.out.fm (by have := F4.out.len; omega)); simp only [yCells] at CC; have VB := O4.out.vb; simp only [yCells] at VB; have y0 := VB.cell 0; have y1 := VB.cell 1; have y2 := VB.cell 2; have y3 := VB.cell 3; have y4 := VB.cell 4; have y5 := VB.cell 5; have y6 := VB.cell 6; have y7 := VB.cell 7; have y8 := VB.cell 8; have y9 := VB.cell 9; clear VB
 go_wp2_with fail
 (with_reducible refine cmo CC.out ?_); rintro e w5 ⟨p2, G, cap2, q5, rfl, hc2, hG, hK, hp⟩; have O5 := mh (O4.out.next hp.tape hp.but); have F5 := mh (F4.out.but hp.but); have G5 := mh (show FsAt (fun b => w.heap.size < b) w5 p2 G from hG.change mle fun b k _ => ⟨rfl, by have := O4.out.tape.lt; unfold NewQ at k; omega⟩); have HK := mh hK; have FG := mh (hK.fok F4.out.ok); have LG := mh (show G.length = F.length from hK.len); have LF := mh F4.out.len; clear hc2 hG hK hp CC y0 y1 y2 y3 y4 y5 y6 y7 y8 y9; have E1 := As.err01 F5.out.ok (As.awards64 O5.out.len (by have := LF.out; omega)); have E2 := As.err01 FG.out (As.awards64 O5.out.len (by rw [LG.out]; have := LF.out; omega)); have AF := mh (fun (W : World) (hb : Below w5.heap.size w5 W) => assess34_any d _ Y p F capF W (O5.out.yv.below hb) (F5.out.at_.below hb)); have AG := mh (fun (W : World) (hb : Below w5.heap.size w5 W) => assess34_any d _ Y p2 G cap2 W (O5.out.yv.below hb) (G5.out.below hb)); have DF := mh (fun (W : World) (hb : Below w5.heap.size w5 W) => diffs38_any d _ Y p F capF p2 G cap2 W (O5.out.yv.below hb) (F5.out.at_.below hb) (G5.out.below hb) (by have := LF.out; omega) (by have := LF.out; have := LG.out; omega)); have DG := mh (fun (W : World) (hb : Below w5.heap.size w5 W) => diffs38_any d _ Y p2 G cap2 p F capF W (O5.out.yv.below hb) (G5.out.below hb) (F5.out.at_.below hb) (by have := LF.out; have := LG.out; omega) (by have := LF.out; omega)); simp only [yCells] at AF AG DF DG; unfold AsG at AF AG; unfold Re.DfG at DF DG; have VB := O5.out.vb; simp only [yCells] at VB; have y0 := VB.cell 0; have y1 := VB.cell 1; have y2 := VB.cell 2; have y3 := VB.cell 3; have y4 := VB.cell 4; have y5 := VB.cell 5; have y6 := VB.cell 6; have y7 := VB.cell 7; have y8 := VB.cell 8; have y9 := VB.cell 9; clear VB
 rcases E1 with E1 | E1
 rotate_left
 ·rcases E2 with E2 | E2
  ·simp only [E1, E2] at AF AG DF DG
   go_wp2_with fail
   (with_reducible refine cmo (AF.out _ (brf _ _)) ?_); rintro e w6 ⟨va, rfl, -, hb⟩; have B6 := mh hb; have O6 := mh (O5.out.below hb); clear hb y0 y1 y2 y3 y4 y5 y6 y7 y8 y9; have VB := O6.out.vb; simp only [yCells] at VB; have y0 := VB.cell 0; have y1 := VB.cell 1; have y2 := VB.cell 2; have y3 := VB.cell 3; have y4 := VB.cell 4; have y5 := VB.cell 5; have y6 := VB.cell 6; have y7 := VB.cell 7; have y8 := VB.cell 8; have y9 := VB.cell 9; clear VB
   go_wp2_with fail
   (with_reducible refine cmo (AG.out w6 B6.out) ?_); rintro e w7 ⟨vb, rfl, -, hb⟩; have B7 := mh (B6.out.trans (hb.mono B6.out.size)); have O7 := mh (O6.out.below hb); clear hb y0 y1 y2 y3 y4 y5 y6 y7 y8 y9; have VB := O7.out.vb; simp only [yCells] at VB; have y0 := VB.cell 0; have y1 := VB.cell 1; have y2 := VB.cell 2; have y3 := VB.cell 3; have y4 := VB.cell 4; have y5 := VB.cell 5; have y6 := VB.cell 6; have y7 := VB.cell 7; have y8 := VB.cell 8; have y9 := VB.cell 9; clear VB
   go_wp2_with fail
   (with_reducible refine cmo (DF.out w7 B7.out) ?_); rintro e w8 (⟨-, rfl, hb⟩ | ⟨h, -⟩ | ⟨h, -⟩)
   rotate_left
   ·exact absurd h (by decide)
   ·exact absurd h (by decide)
   have B8 := mh (B7.out.trans (hb.mono B7.out.size)); have O8 := mh (O7.out.below hb); clear hb y0 y1 y2 y3 y4 y5 y6 y7 y8 y9; have VB := O8.out.vb; simp only [yCells] at VB; have y0 := VB.cell 0; have y1 := VB.cell 1; have y2 := VB.cell 2; have y3 := VB.cell 3; have y4 := VB.cell 4; have y5 := VB.cell 5; have y6 := VB.cell 6; have y7 := VB.cell 7; have y8 := VB.cell 8; have y9 := VB.cell 9; clear VB
   go_wp2_with fail
   (with_reducible refine cmo (DG.out w8 B8.out) ?_); rintro e w10 (⟨h, -⟩ | ⟨-, -, rfl, hb⟩ | ⟨-, h, -⟩)
   ·exact absurd rfl h
   rotate_left
   ·exact absurd h (by decide)
   have O10 := mh (O8.out.below hb); clear hb y0 y1 y2 y3 y4 y5 y6 y7 y8 y9
   go_wp2_with (go_at_call 38; (with_reducible refine cmo (awake38_any _) ?_); rintro e w9 ⟨rfl, hb9⟩; have HB9 := mh (bnext O10.out.low O10.out.low.size hb9); clear hb9)
   go_ret
   exact ⟨rfl, HB9.out⟩
  ·simp only [E1, E2] at AF AG DF DG
   go_wp2_with fail
   (with_reducible refine cmo (AF.out _ (brf _ _)) ?_); rintro e w6 ⟨va, rfl, -, hb⟩; have B6 := mh hb; have O6 := mh (O5.out.below hb); clear hb y0 y1 y2 y3 y4 y5 y6 y7 y8 y9; have VB := O6.out.vb; simp only [yCells] at VB; have y0 := VB.cell 0; have y1 := VB.cell 1; have y2 := VB.cell 2; have y3 := VB.cell 3; have y4 := VB.cell 4; have y5 := VB.cell 5; have y6 := VB.cell 6; have y7 := VB.cell 7; have y8 := VB.cell 8; have y9 := VB.cell 9; clear VB
   go_wp2_with fail
   (with_reducible refine cmo (AG.out w6 B6.out) ?_); rintro e w7 ⟨vb, rfl, -, hb⟩; have B7 := mh (B6.out.trans (hb.mono B6.out.size)); have O7 := mh (O6.out.below hb); clear hb y0 y1 y2 y3 y4 y5 y6 y7 y8 y9; have VB := O7.out.vb; simp only [yCells] at VB; have y0 := VB.cell 0; have y1 := VB.cell 1; have y2 := VB.cell 2; have y3 := VB.cell 3; have y4 := VB.cell 4; have y5 := VB.cell 5; have y6 := VB.cell 6; have y7 := VB.cell 7; have y8 := VB.cell 8; have y9 := VB.cell 9; clear VB
   go_wp2_with fail
   (with_reducible refine cmo (DF.out w7 B7.out) ?_); rintro e w8 (⟨-, rfl, hb⟩ | ⟨h, -⟩ | ⟨h, -⟩)
   rotate_left
   ·exact absurd h (by decide)
   ·exact absurd h (by decide)
   have B8 := mh (B7.out.trans (hb.mono B7.out.size)); have O8 := mh (O7.out.below hb); clear hb y0 y1 y2 y3 y4 y5 y6 y7 y8 y9; have VB := O8.out.vb; simp only [yCells] at VB; have y0 := VB.cell 0; have y1 := VB.cell 1; have y2 := VB.cell 2; have y3 := VB.cell 3; have y4 := VB.cell 4; have y5 := VB.cell 5; have y6 := VB.cell 6; have y7 := VB.cell 7; have y8 := VB.cell 8; have y9 := VB.cell 9; clear VB
   go_wp2_with fail
   (with_reducible refine cmo (DG.out w8 B8.out) ?_); rintro e w10 (⟨-, rfl, hb⟩ | ⟨h, -⟩ | ⟨h, -⟩)
   rotate_left
   ·exact absurd h (by decide)
   ·exact absurd h (by decide)
   have O10 := mh (O8.out.below hb); clear hb y0 y1 y2 y3 y4 y5 y6 y7 y8 y9
   go_wp2_with (go_at_call 38; (with_reducible refine cmo (awake38_any _) ?_); rintro e w9 ⟨rfl, hb9⟩; have HB9 := mh (bnext O10.out.low O10.out.low.size hb9); clear hb9)
   go_ret
   exact ⟨rfl, HB9.out⟩
 rcases E2 with E2 | E2
 rotate_left
 ·simp only [E1, E2] at AF AG DF DG
  go_wp2_with fail
  (with_reducible refine cmo (AF.out _ (brf _ _)) ?_); rintro e w6 ⟨va, rfl, -, hb⟩; have B6 := mh hb; have O6 := mh (O5.out.below hb); clear hb y0 y1 y2 y3 y4 y5 y6 y7 y8 y9; have VB := O6.out.vb; simp only [yCells] at VB; have y0 := VB.cell 0; have y1 := VB.cell 1; have y2 := VB.cell 2; have y3 := VB.cell 3; have y4 := VB.cell 4; have y5 := VB.cell 5; have y6 := VB.cell 6; have y7 := VB.cell 7; have y8 := VB.cell 8; have y9 := VB.cell 9; clear VB
  go_wp2_with fail
  (with_reducible refine cmo (AG.out w6 B6.out) ?_); rintro e w7 ⟨vb, rfl, -, hb⟩; have B7 := mh (B6.out.trans (hb.mono B6.out.size)); have O7 := mh (O6.out.below hb); clear hb y0 y1 y2 y3 y4 y5 y6 y7 y8 y9; have VB := O7.out.vb; simp only [yCells] at VB; have y0 := VB.cell 0; have y1 := VB.cell 1; have y2 := VB.cell 2; have y3 := VB.cell 3; have y4 := VB.cell 4; have y5 := VB.cell 5; have y6 := VB.cell 6; have y7 := VB.cell 7; have y8 := VB.cell 8; have y9 := VB.cell 9; clear VB
  go_wp2_with fail
  (with_reducible refine cmo (DF.out w7 B7.out) ?_); rintro e w8 (⟨h, -⟩ | ⟨-, -, rfl, hb⟩ | ⟨-, h, -⟩)
  ·exact absurd rfl h
  rotate_left
  ·exact absurd h (by decide)
  have B8 := mh (B7.out.trans (hb.mono B7.out.size)); have O8 := mh (O7.out.below hb); clear hb y0 y1 y2 y3 y4 y5 y6 y7 y8 y9; have VB := O8.out.vb; simp only [yCells] at VB; have y0 := VB.cell 0; have y1 := VB.cell 1; have y2 := VB.cell 2; have y3 := VB.cell 3; have y4 := VB.cell 4; have y5 := VB.cell 5; have y6 := VB.cell 6; have y7 := VB.cell 7; have y8 := VB.cell 8; have y9 := VB.cell 9; clear VB
  go_wp2_with fail
  (with_reducible refine cmo (DG.out w8 B8.out) ?_); rintro e w10 (⟨-, rfl, hb⟩ | ⟨h, -⟩ | ⟨h, -⟩)
  rotate_left
  ·exact absurd h (by decide)
  ·exact absurd h (by decide)
  have O10 := mh (O8.out.below hb); clear hb y0 y1 y2 y3 y4 y5 y6 y7 y8 y9
  go_wp2_with (go_at_call 38; (with_reducible refine cmo (awake38_any _) ?_); rintro e w9 ⟨rfl, hb9⟩; have HB9 := mh (bnext O10.out.low O10.out.low.size hb9); clear hb9)
  go_ret
  exact ⟨rfl, HB9.out⟩
 have TD := mh (Re.difs_turned (l := Y) HK.out.farms); have LGT := mh (Re.lost_got (l := Y) HK.out.farms); have TOT := mh (Re.totals F5.out.ok FG.out E1 E2); have LN1 := mh (show (Re.difs Y F G).length ≤ (Re.farmsOf F G).length from Re.difs_len Y F G _); have M1 := mh (Re.difs_mod E1 E2 (by have := LF.out; omega) (by have := LF.out; have := LG.out; omega) LN1.out); have M2 := mh (Re.difs_mod (l := Y) (F := G) (G := F) E2 E1 (by have := LF.out; have := LG.out; omega) (by have := LF.out; omega) (Re.difs_len Y G F _)); have DU1 := mh (Re.due0 E1); have DU2 := mh (Re.due0 E2); have LA1 := mh (Re.falls0 E1).len; have LA2 := mh (Re.falls0 E2).len; simp only [E1, E2] at AF AG DF DG; clear E1 E2 LN1; obtain ⟨A, eA⟩ : ∃ A, assess Y F = A := ⟨_, rfl⟩; obtain ⟨B, eB⟩ : ∃ A, assess Y G = A := ⟨_, rfl⟩; obtain ⟨D, eD⟩ : ∃ A, Re.difs Y F G = A := ⟨_, rfl⟩; obtain ⟨C, eC⟩ : ∃ A, Re.difs Y G F = A := ⟨_, rfl⟩; rw [eA] at AF TOT DU1 LA1; rw [eB] at AG TOT DU2 LA2; rw [eD] at DF TD LGT TOT M1; rw [eC] at DG TD LGT M2; clear eA eB eD eC
 go_wp2_with fail
 (with_reducible refine cmo (AF.out _ (brf _ _)) ?_); rintro e w6 ⟨va, rfl, hoa, hb⟩; obtain ⟨pa, ca, rfl, -, -, -, -, hra⟩ := hoa.cut rfl; have RA6 := mh hra; have B6 := mh hb; have O6 := mh (O5.out.below hb); clear hb hoa hra y0 y1 y2 y3 y4 y5 y6 y7 y8 y9; have VB := O6.out.vb; simp only [yCells] at VB; have y0 := VB.cell 0; have y1 := VB.cell 1; have y2 := VB.cell 2; have y3 := VB.cell 3; have y4 := VB.cell 4; have y5 := VB.cell 5; have y6 := VB.cell 6; have y7 := VB.cell 7; have y8 := VB.cell 8; have y9 := VB.cell 9; clear VB
 go_wp2_with fail
 (with_reducible refine cmo (AG.out w6 B6.out) ?_); rintro e w7 ⟨vb, rfl, hob, hb⟩; obtain ⟨pb, cb, rfl, -, -, -, -, hrb⟩ := hob.cut rfl; have RA7 := mh (RA6.out.below hb); have RB7 := mh hrb; have B7 := mh (B6.out.trans (hb.mono B6.out.size)); have O7 := mh (O6.out.below hb); clear hb hob hrb y0 y1 y2 y3 y4 y5 y6 y7 y8 y9; have VB := O7.out.vb; simp only [yCells] at VB; have y0 := VB.cell 0; have y1 := VB.cell 1; have y2 := VB.cell 2; have y3 := VB.cell 3; have y4 := VB.cell 4; have y5 := VB.cell 5; have y6 := VB.cell 6; have y7 := VB.cell 7; have y8 := VB.cell 8; have y9 := VB.cell 9; clear VB
 go_wp2_with fail
 (with_reducible refine cmo (DF.out w7 B7.out) ?_); rintro e w8 (⟨h, -⟩ | ⟨-, h, -⟩ | ⟨-, -, vd, RD, rfl, hRD, hb⟩)
 ·exact absurd rfl h
 ·exact absurd rfl h
 obtain ⟨nD, enD⟩ : ∃ n, D.length = n := ⟨_, rfl⟩; have ND := mh enD; obtain ⟨pd, cd, rfl, -, -, hD8⟩ := hRD.difs (n := nD) enD; have D8 := mh hD8; have RA8 := mh (RA7.out.below hb); have RB8 := mh (RB7.out.below hb); have B8 := mh (B7.out.trans (hb.mono B7.out.size)); have O8 := mh (O7.out.below hb); clear hb hRD hD8 y0 y1 y2 y3 y4 y5 y6 y7 y8 y9; have VB := O8.out.vb; simp only [yCells] at VB; have y0 := VB.cell 0; have y1 := VB.cell 1; have y2 := VB.cell 2; have y3 := VB.cell 3; have y4 := VB.cell 4; have y5 := VB.cell 5; have y6 := VB.cell 6; have y7 := VB.cell 7; have y8 := VB.cell 8; have y9 := VB.cell 9; clear VB
 go_wp2_with fail
 (with_reducible refine cmo (DG.out w8 B8.out) ?_); rintro e w10 (⟨h, -⟩ | ⟨-, h, -⟩ | ⟨-, -, ve, RE, rfl, hRE, hb⟩)
 ·exact absurd rfl h
 ·exact absurd rfl h
 have NC := mh (show C.length = nD from TD.out.1.symm.trans enD); obtain ⟨pe, ce, rfl, -, -, hC10⟩ := hRE.difs (n := nD) NC.out; have D10 := mh (D8.out.below hb); have C10 := mh hC10; have RA10 := mh (RA8.out.below hb); have RB10 := mh (RB8.out.below hb); have O10 := mh (O8.out.below hb); have hnD : nD ≤ 1000 := by have := M1.out.len; omega
 clear hb hRE hC10 enD y0 y1 y2 y3 y4 y5 y6 y7 y8 y9 AF AG DF DG O4 O5 O6 O7 O8 F4 F5 G5 RA6 RA7 RA8 RB7 RB8 D8 B6 B7 B8
 go_wp2_with fail
 go_loopw [87] (fun kv W => ∃ k : Nat, k ≤ nD ∧ kv = I O k ∧ Below w10.heap.size w10 W) (fun kv _ => nD - (intOf kv).toNat)
 case atStart => exact ⟨0, Nat.zero_le _, rfl, brf _ _⟩
 case round =>
  obtain ⟨wo, rfl⟩ : ∃ wo : World, wo = wr := ⟨_, rfl⟩; obtain ⟨k, hk, rfl, hb⟩ := hrel; have HB := mh hb; have hk0 : (0 : Int) ≤ (k : Int) := inn _
  by_cases hlt : k < nD
  ·have hk1 : (k : Int) < (nD : Int) := by omega
   have hkD : k < D.length := by rw [ND.out]; exact hlt
   have hkC : k < C.length := by rw [NC.out]; exact hlt
   obtain ⟨bd, od, ⟨xf, xb, xa, cp, cn, cc⟩, rfl, hbl, ⟨c0, c1, c2, c3⟩, hv⟩ := (D10.out.below hb).at hkD; obtain ⟨bc, oc, ⟨yf, yb, ya, dp, dn, dc⟩, rfl, hbl', ⟨d0, d1, d2, d3⟩, hu⟩ := (C10.out.below hb).at hkC; obtain ⟨t1, t2, t3, t4⟩ := TD.out.2 k hkD hkC; have e1 : xf = yf := hv.farm.trans (t1.trans hu.farm.symm); have e2 : xb = ya := hv.before.trans (t2.trans hu.after.symm); have e3 : xa = yb := hv.after.trans (t3.trans hu.before.symm); have e4 : cn = dn := hv.n.trans (t4.trans hu.n.symm); subst e1 e2 e3 e4; simp only at c0 c1 c2 c3 d0 d1 d2 d3; clear hv hu t1 t2 t3 t4 hb hbl hbl'
   go_wp2_with fail
   refine wp_region_quiet_lit (by kernel_rfl) (by kernel_rfl) ?_
   try simp only [List.append_eq, List.cons_append, List.nil_append]
   repeat (go_big_quiet_step (fail))
   refine wpQuiet_nil ?_
   intro _ hwq; obtain ⟨nq, hwr⟩ := hwq; subst hwr
   go_wp2_with fail
   go_roundw
   case rel => exact ⟨k + 1, by omega, by go_num, bnext HB.out HB.out.size (drewN_below _ _)⟩
   case measure => simp [intOf]; omega
  ·obtain rfl : k = nD := by omega
   have OO := mh (O10.out.below hb); have BD := mh (show Calls Tryz.prog 48 #[.slice pd k cd] wo (Re.TwoG (Re.lost D) (Re.got D) wo) from by have := balance38_any pd D cd wo (D10.out.below hb) M1.out; rwa [ND.out] at this); have BC := mh (fun (W : World) (hw : Below wo.heap.size wo W) => show Calls Tryz.prog 48 #[.slice pe k ce] W (Re.TwoG (Re.lost C) (Re.got C) W) from by have := balance38_any pe C ce W ((C10.out.below hb).below hw) M2.out; rwa [NC.out] at this); have TA := mh (fun (W : World) (hw : Below wo.heap.size wo W) => total34_any pa A ca W ((RA10.out.below hb).below hw) DU1.out); have TB := mh (fun (W : World) (hw : Below wo.heap.size wo W) => total34_any pb B cb W ((RB10.out.below hb).below hw) DU2.out); have q1 := Re.sum_bd Re.lost1 (B := 4398046511104) (by omega) (D := D) fun d hd => ⟨(Re.one_bd M1.out hd).1, (Re.one_bd M1.out hd).2.1⟩
   have q2 := Re.sum_bd Re.got1 (B := 4398046511104) (by omega) (D := D) fun d hd => (Re.one_bd M1.out hd).2.2
   have q3 := DU1.out.bd (k := A.length) mle; have q4 := DU2.out.bd (k := B.length) mle; rw [List.take_length] at q3 q4; have r1 : 0 ≤ Re.lost D ∧ Re.lost D ≤ 4398046511104 * (D.length : Int) := q1; have r2 : 0 ≤ Re.got D ∧ Re.got D ≤ 4398046511104 * (D.length : Int) := q2; have hAl := LA1.out; have hBl := LA2.out; have hDl := M1.out.len; have hT := TOT.out; rw [← LGT.out.1, ← LGT.out.2] at BC; obtain ⟨L, eL⟩ : ∃ x, Re.lost D = x := ⟨_, rfl⟩; obtain ⟨H, eH⟩ : ∃ x, Re.got D = x := ⟨_, rfl⟩; obtain ⟨TX, eX⟩ : ∃ x, total A = x := ⟨_, rfl⟩; obtain ⟨TY, eY⟩ : ∃ x, total B = x := ⟨_, rfl⟩; rw [eL] at BD BC hT r1; rw [eH] at BD BC hT r2; rw [eX] at TA hT q3; rw [eY] at TB hT q4; have w1 : IntKind.i64.wrap (H - L) = TY - TX := by rw [IntKind.wrap_i64]; omega
   have w2 : IntKind.i64.wrap (TY - TX) = TY - TX := by rw [IntKind.wrap_i64]; omega
   clear q1 q2 q3 q4 r1 r2 hAl hBl hDl hT eL eH eX eY hb
   go_wp2_with fail
   (with_reducible refine cmo BD.out ?_); rintro e w11 ⟨rfl, hb11⟩; have B11 := mh hb11; clear hb11
   go_wp2_with fail
   (with_reducible refine cmo (BC.out w11 B11.out) ?_); rintro e w12 ⟨rfl, hb12⟩; have B12 := mh (B11.out.trans (hb12.mono B11.out.size)); clear hb12
   go_wp2_with fail
   (with_reducible refine cmo (TB.out w12 B12.out) ?_); rintro e w13 ⟨rfl, hb13⟩; have B13 := mh (B12.out.trans (hb13.mono B12.out.size)); clear hb13
   go_wp2_with fail
   (with_reducible refine cmo (TA.out w13 B13.out) ?_); rintro e w14 ⟨rfl, hb14⟩; have O14 := mh (OO.out.below (B13.out.trans (hb14.mono B13.out.size))); clear hb14
   go_wp2_with (go_at_call 38; (with_reducible refine cmo (awake38_any _) ?_); rintro e w9 ⟨rfl, hb9⟩; have HB9 := mh (bnext O14.out.low O14.out.low.size hb9); clear hb9)
   go_ret
   exact ⟨rfl, HB9.out⟩
end Go.Proofs.YtmlfcpglhipjgaaGreat
