/-
  PACKED (pack8.py): what is needed of the texts Fr.
-/
import Derived.Test.YtmlfcpglhipjgaaGreatR35
import Derived.Test.YtmlfcpglhipjgaaGreatR41
import Derived.Test.YtmlfcpglhipjgaaGreatR43
set_option maxRecDepth 100000
set_option maxHeartbeats 8000000
open Go.Value renaming int → I
open Go.IntKind renaming i64 → O
namespace Go.Proofs.YtmlfcpglhipjgaaGreat
open Go.RowKit Sc As
theorem As.awards64 {Y : YLaw} {F : List FarmF} (hl : Y.sch.length ≤ 3) (hF : F.length ≤ 4) : (allAw Y F).length ≤ 64 := by
 have h1 := allAw_le Y F; have h2 : F.length * Y.sch.length ≤ 4 * 3 := Nat.mul_le_mul hF hl; omega
theorem As.err01 {l : YLaw} {F : List FarmF} (h : FOk l F) (hl : (allAw l F).length ≤ 64) : assErr l F = 0 ∨ assErr l F = 67 := by
 rcases assErr_cases h with ⟨e, _⟩ | ⟨_, g, _⟩ | ⟨_, _, e⟩
 ·exact .inr e
 ·omega
 ·exact .inl e
theorem elem_farms2 : Tryz.prog.elem 30 = 47 := by kernel_rfl
theorem cells_farm2 : Tryz.prog.cellsOf 47 = 3 := by kernel_rfl
theorem run_farms_one (b off n c i : Nat) (hi : i + 1 ≤ c) : ∀ W, (Instr.slice 30 (.slice (some ⟨b, off, none⟩) n c) (some (I O (i : Int))) (some (I O ((i : Int) + 1))) none).run Tryz.prog W = .ok (.slice (some ⟨b, off + i * 3, none⟩) 1 (c - i)) W := fun W => by
 have hs : (sizeOf (Tryz.prog.elem 30)).run Tryz.prog W = .ok 3 W := by
  obtain ⟨i0, _, h1, _⟩ := el_farm.ex; rw [elem_farms2, run_sizeOf W h1, cells_farm2]
 rw [run_slice_lh (P := Tryz.prog) W 30 (some ⟨b, off, none⟩) n c (by rw [elem_farms2]; exact el_farm.ts) .i64 .i64 (i : Int) ((i : Int) + 1) (by omega) (by omega) (by omega), hs]
 show Result.ok (Value.slice (if c = (i : Int).toNat then some ⟨b, off, none⟩ else (some (⟨b, off, none⟩ : Addr)).map (·.add ((i : Int).toNat * 3))) (((i : Int) + 1).toNat - (i : Int).toNat) (c - (i : Int).toNat)) W = _
 have e1 : (i : Int).toNat = i := by omega
 have e2 : ((i : Int) + 1).toNat = i + 1 := by omega
 rw [e1, e2, if_neg (by omega), Option.map_some, Go.WideShapes.add_plain, show i + 1 - i = 1 by omega]
theorem FsAt.only {Q : Nat → Prop} {w : World} {b off : Nat} {F : List FarmF} (h : FsAt Q w (some ⟨b, off, none⟩) F) {i : Nat} (hi : i < F.length) : FsAt Q w (some ⟨b, off + i * 3, none⟩) [F[i]] := by
 obtain ⟨⟨R, h1, h2, h3⟩, h4⟩ := h; have hR : i < R.length := by omega
 have e : (R.drop i).take 1 = [R[i]] := by
  rw [List.drop_eq_getElem_cons hR]; rfl
 refine ⟨⟨[R[i]], rfl, e ▸ (h2.drop i).take 1, fun k a b => ?_⟩, fun a ea => .inr ?_⟩
 ·obtain rfl : k = 0 := by simp at a; exact a
  exact h3 i hR hi
 ·cases ea
  rcases h4 _ rfl with h | h
  ·rw [h] at hi; simp at hi
  ·exact h
theorem recomputeReasons_walk (a : Option Addr) (len cap : Nat) (z : List Int) (w : World) (w0 : IsRow .i64 w a len cap z) :
  Calls Tryz.prog 11 #[.slice a len cap] w fun e w' => e = .returned (.bool true) ∧ Below w.heap.size w w' := by
 obtain ⟨hIr, hLr⟩ := w0.ints; have NW := mh (new_any a len cap z w w0); obtain ⟨l, el⟩ : ∃ l, (z.take len).take 400 = l := ⟨_, rfl⟩; rw [el] at NW; clear el hIr hLr w0
 go_enter Tryz.func11, Tryz.ntmps11
 go_wp2_with fail
 (with_reducible refine cmo NW.out ?_); rintro e w1 ⟨rfl, ht1, hb1⟩; have LW := mh (law2_any w.heap.size l 0 w1 ht1); have HT1 := mh ht1.lt; have HB1 := mh hb1; clear NW ht1 hb1
 go_wp2_with fail
 (with_reducible refine cmo LW.out ?_); rintro e w2 ⟨d, r, Y, q, rfl, hy, hok, hlen, hdue, hsm, hp⟩; have O2 := mh (Opn.init (T := 29) HB1.out HT1.out hy hok hlen hdue hsm hp rfl); clear hy hok hlen hdue hsm hp LW; obtain ⟨sp, sn, sc, tp, tn, tc, ldue, llast, lmille, gp, gn, gc, cp, ev, un, wd⟩ := r; simp only [yCells] at O2 ⊢; obtain ⟨g, eg⟩ : ∃ g, w2.heap.size = g := ⟨_, rfl⟩; rw [eg] at O2; have FM := mh (O2.out.farms 4 (by omega)); simp only [yCells] at FM
 go_wp2_with fail
 clear eg; generalize w2.alloc (.cells #[.slice sp sn sc, .slice tp tn tc, I O ldue, I O llast, I O lmille, .slice gp gn gc, I O cp, I O ev, I O un, I O wd] 29) = w3 at *; (with_reducible refine cmo FM.out ?_); rintro e w4 ⟨p, F, capF, q4, rfl, hcF, hO4, hF4, -⟩; have O4 := mh hO4; have F4 := mh hF4; have HCF := mh hcF; clear hcF; clear FM hO4 hF4 O2; have CC := mh (corr2_any (Q := fun b => w.heap.size < b) d w.heap.size l q4 _ Y p F capF w4 O4.out.tape (fun b k => by omega) O4.out.yv O4.out.ok F4.out.at_ F4.out.fm F4.out.len); simp only [yCells] at CC; have VB := O4.out.vb; simp only [yCells] at VB; have y0 := VB.cell 0; have y1 := VB.cell 1; have y2 := VB.cell 2; have y3 := VB.cell 3; have y4 := VB.cell 4; have y5 := VB.cell 5; have y6 := VB.cell 6; have y7 := VB.cell 7; have y8 := VB.cell 8; have y9 := VB.cell 9; clear VB
 go_wp2_with fail
 (with_reducible refine cmo CC.out ?_); rintro e w5 ⟨p2, G, cap2, q5, rfl, hc2, hG, hK, hp⟩; have O5 := mh (O4.out.next hp.tape hp.but); have F5 := mh (F4.out.but hp.but); have G5 := mh (show FsAt (fun b => w.heap.size < b) w5 p2 G from hG.change mle fun b k _ => ⟨rfl, by have := O4.out.tape.lt; unfold NewQ at k; omega⟩); have HK := mh hK; have HC2 := mh hc2; have FG := mh (hK.fok F4.out.ok); have LG := mh (show G.length = F.length from hK.len); have LF := mh F4.out.len; clear hc2 hG hK hp CC y0 y1 y2 y3 y4 y5 y6 y7 y8 y9; have E1 := As.err01 F5.out.ok (As.awards64 O5.out.len LF.out); have E2 := As.err01 FG.out (As.awards64 O5.out.len (by rw [LG.out]; exact LF.out)); have DF := mh (diffs38_any d _ Y p F capF p F capF w5 O5.out.yv F5.out.at_ F5.out.at_ (by have := LF.out; omega) (by have := LF.out; omega)); have DG := mh (fun (W : World) (hb : Below w5.heap.size w5 W) => diffs38_any d _ Y p F capF p2 G cap2 W (O5.out.yv.below hb) (F5.out.at_.below hb) (G5.out.below hb) (by have := LF.out; omega) (by have := LF.out; have := LG.out; omega)); have RS := mh (fun (h1 : assErr Y F = 0) (h2 : assErr Y G = 0) x (hx : x ∈ Re.difs Y F G) => Re.reasons F5.out.ok FG.out HK.out.farms h1 h2 hx); simp only [yCells] at DF DG; unfold Re.DfG at DF DG; have VB := O5.out.vb; simp only [yCells] at VB; have y0 := VB.cell 0; have y1 := VB.cell 1; have y2 := VB.cell 2; have y3 := VB.cell 3; have y4 := VB.cell 4; have y5 := VB.cell 5; have y6 := VB.cell 6; have y7 := VB.cell 7; have y8 := VB.cell 8; have y9 := VB.cell 9; clear VB
 rcases E1 with E1 | E1
 rotate_left
 ·simp only [E1] at DF DG
  go_wp2_with fail
  (with_reducible refine cmo DF.out ?_); rintro e w6 (⟨-, rfl, hb6⟩ | ⟨h, -⟩ | ⟨h, -⟩)
  rotate_left
  ·exact absurd h (by decide)
  ·exact absurd h (by decide)
  have O6 := mh (O5.out.below hb6); have B6 := mh hb6; clear hb6 y0 y1 y2 y3 y4 y5 y6 y7 y8 y9; have VB := O6.out.vb; simp only [yCells] at VB; have y0 := VB.cell 0; have y1 := VB.cell 1; have y2 := VB.cell 2; have y3 := VB.cell 3; have y4 := VB.cell 4; have y5 := VB.cell 5; have y6 := VB.cell 6; have y7 := VB.cell 7; have y8 := VB.cell 8; have y9 := VB.cell 9; clear VB
  go_wp2_with fail
  (with_reducible refine cmo (DG.out w6 B6.out) ?_); rintro e w7 (⟨-, rfl, hb7⟩ | ⟨h, -⟩ | ⟨h, -⟩)
  rotate_left
  ·exact absurd h (by decide)
  ·exact absurd h (by decide)
  have O7 := mh (O6.out.below hb7); clear hb7 y0 y1 y2 y3 y4 y5 y6 y7 y8 y9
  go_wp2_with (go_at_call 38; (with_reducible refine cmo (awake38_any _) ?_); rintro e w9 ⟨rfl, hb9⟩; have HB9 := mh (bnext O7.out.low O7.out.low.size hb9); clear hb9)
  go_ret
  exact ⟨rfl, HB9.out⟩
 have RS := mh (RS.out E1)
 rcases E2 with E2 | E2
 rotate_left
 ·simp only [E1, E2] at DF DG
  go_wp2_with fail
  (with_reducible refine cmo DF.out ?_); rintro e w6 (⟨h, -⟩ | ⟨-, h, -⟩ | ⟨-, -, v6, R6, rfl, hR6, hb6⟩)
  ·exact absurd rfl h
  ·exact absurd rfl h
  have O6 := mh (O5.out.below hb6); have B6 := mh hb6; clear hb6 hR6 y0 y1 y2 y3 y4 y5 y6 y7 y8 y9; have VB := O6.out.vb; simp only [yCells] at VB; have y0 := VB.cell 0; have y1 := VB.cell 1; have y2 := VB.cell 2; have y3 := VB.cell 3; have y4 := VB.cell 4; have y5 := VB.cell 5; have y6 := VB.cell 6; have y7 := VB.cell 7; have y8 := VB.cell 8; have y9 := VB.cell 9; clear VB
  go_wp2_with fail
  (with_reducible refine cmo (DG.out w6 B6.out) ?_); rintro e w7 (⟨h, -⟩ | ⟨-, -, rfl, hb7⟩ | ⟨-, h, -⟩)
  ·exact absurd rfl h
  rotate_left
  ·exact absurd h (by decide)
  have O7 := mh (O6.out.below hb7); clear hb7 y0 y1 y2 y3 y4 y5 y6 y7 y8 y9
  go_wp2_with (go_at_call 38; (with_reducible refine cmo (awake38_any _) ?_); rintro e w9 ⟨rfl, hb9⟩; have HB9 := mh (bnext O7.out.low O7.out.low.size hb9); clear hb9)
  go_ret
  exact ⟨rfl, HB9.out⟩
 have RS := mh (RS.out E2); simp only [E1, E2, Re.difs_self] at DF DG; clear E1 E2
 go_wp2_with fail
 (with_reducible refine cmo DF.out ?_); rintro e w6 (⟨h, -⟩ | ⟨-, h, -⟩ | ⟨-, -, v6, R6, rfl, hR6, hb6⟩)
 ·exact absurd rfl h
 ·exact absurd rfl h
 obtain ⟨p6, c6, rfl, -, -, -⟩ := hR6.difs (n := 0) rfl; have O6 := mh (O5.out.below hb6); have B6 := mh hb6; clear hb6 hR6 y0 y1 y2 y3 y4 y5 y6 y7 y8 y9; have VB := O6.out.vb; simp only [yCells] at VB; have y0 := VB.cell 0; have y1 := VB.cell 1; have y2 := VB.cell 2; have y3 := VB.cell 3; have y4 := VB.cell 4; have y5 := VB.cell 5; have y6 := VB.cell 6; have y7 := VB.cell 7; have y8 := VB.cell 8; have y9 := VB.cell 9; clear VB
 go_wp2_with fail
 (with_reducible refine cmo (DG.out w6 B6.out) ?_); rintro e w7 (⟨h, -⟩ | ⟨-, h, -⟩ | ⟨-, -, v7, R7, rfl, hR7, hb7⟩)
 ·exact absurd rfl h
 ·exact absurd rfl h
 obtain ⟨nD, enD⟩ : ∃ n, (Re.difs Y F G).length = n := ⟨_, rfl⟩; obtain ⟨p7, c7, rfl, -, -, hD7⟩ := hR7.difs (n := nD) enD; have ND := mh enD; have D7 := mh hD7; have O7 := mh (O6.out.below hb7); have F7 := mh ((F5.out.below B6.out).below hb7); have G7 := mh ((G5.out.below B6.out).below hb7); have hnD : nD ≤ 1000 := by have h1 := Re.difs_len Y F G (Re.farmsOf F G); have h2 := Re.farmsOf_len F G; have h3 := LF.out; have h4 := LG.out; unfold Re.difs at enD; omega
 clear hb7 hR7 hD7 enD y0 y1 y2 y3 y4 y5 y6 y7 y8 y9 DF DG B6 O6 F5 G5 O5 O4 F4; obtain ⟨nF, enF⟩ : ∃ n, F.length = n := ⟨_, rfl⟩; have NF := mh enF; have hnF : nF ≤ 4 := by rw [← enF]; exact LF.out
 have hGl : G.length = nF := by rw [LG.out, enF]
 have NG := mh hGl; have hcF : nF ≤ capF := by have := HCF.out; omega
 have hcG : nF ≤ cap2 := by have := HC2.out; omega
 rw [hGl, enF]; clear enF hGl
 go_wp2_with fail
 go_loopw [64] (fun kv W => ∃ k : Nat, k ≤ nD ∧ kv = I O k ∧ Below w7.heap.size w7 W) (fun kv _ => nD - (intOf kv).toNat)
 case atStart => exact ⟨0, Nat.zero_le _, rfl, brf _ _⟩
 case round =>
  obtain ⟨wo, rfl⟩ : ∃ wo : World, wo = wr := ⟨_, rfl⟩; obtain ⟨k, hk, rfl, hb⟩ := hrel; have HB := mh hb; have hk0 : (0 : Int) ≤ (k : Int) := inn _
  by_cases hlt : k < nD
  ·have hk1 : (k : Int) < (nD : Int) := by omega
   have hkD : k < (Re.difs Y F G).length := by rw [ND.out]; exact hlt
   obtain ⟨bd, od, ⟨xf, xb, xa, cp, cn, cc⟩, rfl, hbl, ⟨c0, c1, c2, c3⟩, hv⟩ := (D7.out.below hb).at hkD; have RX := mh (RS.out _ (List.getElem_mem hkD)); have hv1 := hv.farm; have hv2 := hv.before; have hv3 := hv.after; have hv4 := hv.n; have CH := mh hv.chg; simp only at c0 c1 c2 c3 hv1 hv2 hv3 hv4; obtain ⟨x, ex⟩ : ∃ x, (Re.difs Y F G)[k] = x := ⟨_, rfl⟩; rw [ex] at RX hv1 hv2 hv3 hv4 CH; have XE := mh (And.intro hv1 (And.intro hv2 (And.intro hv3 hv4))); have hcn : cn ≠ 0 := by rw [hv4]; exact fun e => RX.out.2.1 (List.length_eq_zero_iff.1 e)
   have hba : xb ≠ xa := by rw [hv2, hv3]; exact RX.out.1
   have s1 : ((cn : Int) == 0) = false := by rw [beq_eq_false_iff_ne]; omega
   have s1' : (cn == 0) = false := by rw [beq_eq_false_iff_ne]; exact hcn
   have s2 : (xb == xa) = false := by rw [beq_eq_false_iff_ne]; exact hba
   have hal := (brf wo.heap.size wo).alloc mle (.cells #[I O xf, I O xb, I O xa, .slice cp cn cc] 88); obtain ⟨gx, egx⟩ : ∃ g, wo.heap.size = g := ⟨_, rfl⟩; have GX := mh (egx ▸ Blk.new wo #[I O xf, I O xb, I O xa, .slice cp cn cc] 88); have BA := mh (HB.out.trans (hal.mono HB.out.size)); have CHA := mh (CH.out.below hal); clear hv hv1 hv2 hv3 hv4 ex hb hal hcn hba hbl CH; have x0 := GX.out.cell 0; have x1 := GX.out.cell 1; have x2 := GX.out.cell 2; have x3 := GX.out.cell 3
   go_wp2_with fail
   clear egx c0 c1 c2 c3 s1 s1' s2 x0 x1 x2 x3; generalize wo.alloc (.cells #[I O xf, I O xb, I O xa, .slice cp cn cc] 88) = w8 at *
   go_loopw [81] (fun iv W => ∃ i : Nat, i ≤ nF ∧ iv = I O i ∧ Below w8.heap.size w8 W) (fun iv _ => nF - (intOf iv).toNat)
   case atStart => exact ⟨0, Nat.zero_le _, rfl, brf _ _⟩
   case round =>
    obtain ⟨wi, rfl⟩ : ∃ wi : World, wi = wr := ⟨_, rfl⟩; obtain ⟨i, hi, rfl, hbi⟩ := hrel; have HBI := mh hbi; have hi0 : (0 : Int) ≤ (i : Int) := inn _
    by_cases hlt2 : i < nF
    ·have hi1 : (i : Int) < (nF : Int) := by omega
     have hiF : i < F.length := by rw [NF.out]; exact hlt2
     have hiG : i < G.length := by rw [NG.out]; exact hlt2
     have BI := mh (BA.out.trans (hbi.mono BA.out.size)); obtain ⟨bf, of, ⟨ff, fd, lp, ln, lc⟩, rfl, hbf, ⟨f0, f1, f2⟩, hvf⟩ := (F7.out.at_.below BI.out).at hiF; obtain ⟨bg, og, rg, rfl, -, -, -⟩ := (G7.out.below BI.out).at hiG; have hff : ff = F[i].farm := hvf.farm; have FO := mh ((F7.out.at_.below BI.out).only hiF); have GO := mh ((G7.out.below BI.out).only hiG); have RI := mh (RX.out.2.2 i hiF hiG); obtain ⟨fi, efi⟩ : ∃ f, F[i] = f := ⟨_, rfl⟩; obtain ⟨gi, egi⟩ : ∃ f, G[i] = f := ⟨_, rfl⟩; rw [efi] at FO RI hff; rw [egi] at GO RI; have RQ := run_farms_one bf of nF capF i (by omega); have RH := run_farms_one bg og nF cap2 i (by omega); have SM := mh (refsame34_one (some ⟨bf, of + i * 3, none⟩) (some ⟨bg, og + i * 3, none⟩) fi gi (capF - i) (cap2 - i) wi.drew (FO.out.below (brf _ _).drew) (GO.out.below (brf _ _).drew)); have hi2 : (i : Int) + 1 ≤ (nF : Int) := by omega
     have hcFI : (i : Int) + 1 ≤ (capF : Int) := by omega
     have hcGI : (i : Int) + 1 ≤ (cap2 : Int) := by omega
     have hwi : IntKind.i64.wrap ((i : Int) + 1) = (i : Int) + 1 := by rw [IntKind.wrap_i64]; omega
     have hli : decide ((i : Int) < (nF : Int)) = true := dqt hi1; have BD := mh (show Below w8.heap.size w8 wi.drew from hbi.drew); simp only at f0; have XF := mh (show ∀ W, Below w8.heap.size w8 W → W.cell? ⟨gx, 0, none⟩ = some (I O xf) ∧ W.cell? ⟨gx, 3, none⟩ = some (.slice cp cn cc) from fun W hb => ⟨(GX.out.below hb).cell 0, (GX.out.below hb).cell 3⟩)
     have FC := mh (show ∀ W, Below w8.heap.size w8 W → W.cell? ⟨bf, of + i * 3, none⟩ = some (I O ff) from fun W hb => by
      have hb0 := BA.out.trans (hb.mono BA.out.size); obtain ⟨b', o', r', e', -, ⟨g0, -, -⟩, hv'⟩ := (F7.out.at_.below hb0).at hiF
      cases e'
      rw [g0, hff, ← efi]
      exact congrArg (fun z => some (Value.int .i64 z)) hv'.farm)
     clear hvf f0 f1 f2 hbf hbi
     by_cases hfa : ff = xf
     rotate_left
     ·have t1 : (ff == xf) = false := by rw [beq_eq_false_iff_ne]; exact hfa
      have KT := mh (fun (W : World) (hb : Below w8.heap.size w8 W) => show W.cell? ⟨bf, of + i * 3, none⟩ = some (I O ff) ∧ W.cell? ⟨gx, 0, none⟩ = some (I O xf) ∧ W.cell? ⟨gx, 3, none⟩ = some (.slice cp cn cc) from ⟨FC.out W hb, (XF.out W hb).1, (XF.out W hb).2⟩); clear hfa SM RI efi egi hff RQ RH
      go_wp2_with fail
      refine wp_region_noPanic ?_
      refine wp_region_held_drew (S := fun w' => w'.cell? ⟨bf, of + i * 3, none⟩ = some (I O ff) ∧ w'.cell? ⟨gx, 0, none⟩ = some (I O xf) ∧ w'.cell? ⟨gx, 3, none⟩ = some (.slice cp cn cc)) (by kernel_rfl) (KT.out _ BD.out) (fun hHeld => ?_)
      generalize wi.drew = wd_ at *; refine tkD 0 84 ?_; refine tkD 1 85 ?_; refine tkD 2 86 ?_; refine tkD 3 87 ?_; refine tkD 4 88 ?_; refine tkD 5 89 ?_; refine tkD 6 90 ?_; refine tkD 7 91 ?_; refine tkD 8 92 ?_; refine tkE 9 93 ?_; refine tkE 10 94 ?_; refine tkE 11 95 ?_; refine tkE 12 96 ?_; refine tkD 13 97 ?_; refine tkD 14 98 ?_; refine tkE 15 99 ?_; refine tkE 16 100 ?_; refine tkE 17 101 ?_; refine tkE 18 102 ?_; refine tkE 19 103 ?_; refine tkE 20 104 ?_; refine tkE 21 105 ?_; refine tkE 22 106 ?_; refine tkE 23 107 ?_; refine tkE 24 108 ?_; refine tkE 25 109 ?_; refine tkD 26 110 ?_; refine tkD 27 111 ?_; refine tkE 28 112 ?_; refine tkE 29 113 ?_; refine tkE 30 114 ?_; refine tkE 31 115 ?_; refine tkE 32 116 ?_; refine tkE 33 117 ?_; refine tkE 34 118 ?_; refine tkE 35 119 ?_; refine tkE 36 120 ?_; refine tkE 37 121 ?_; refine tkE 38 122 ?_; refine tkE 39 123 ?_; refine tkD 40 124 ?_; refine wpAnyH_done (by kernel_rfl) ?_ _; refine NoPanic.normal ?_
      go_wp2_with fail
      go_roundw
      case rel => exact ⟨i + 1, by omega, by go_num, BD.out⟩
      case measure => simp [intOf]; omega
     ·have t1 : (ff == xf) = true := by rw [beq_iff_eq]; exact hfa
      by_cases hfg : fi = gi
      rotate_left
      ·have HFG := mh hfg
       have KT := mh (fun (W : World) (hb : Below w8.heap.size w8 W) => show W.cell? ⟨bf, of + i * 3, none⟩ = some (I O ff) ∧ W.cell? ⟨gx, 0, none⟩ = some (I O xf) ∧ W.cell? ⟨gx, 3, none⟩ = some (.slice cp cn cc) from ⟨FC.out W hb, (XF.out W hb).1, (XF.out W hb).2⟩); clear hfg RI efi egi hff hfa
       go_wp2_with fail
       refine wp_region_noPanic ?_
       refine wp_region_held_drew (S := fun w' => w'.cell? ⟨bf, of + i * 3, none⟩ = some (I O ff) ∧ w'.cell? ⟨gx, 0, none⟩ = some (I O xf) ∧ w'.cell? ⟨gx, 3, none⟩ = some (.slice cp cn cc)) (by kernel_rfl) (KT.out _ BD.out) (fun hHeld => ?_)
       generalize wi.drew = wd_ at *; refine tkD 0 84 ?_; refine tkD 1 85 ?_; refine tkD 2 86 ?_; refine tkD 3 87 ?_; refine tkD 4 88 ?_; refine tkD 5 89 ?_; refine tkD 6 90 ?_; refine tkD 7 91 ?_; refine tkD 8 92 ?_; refine tkD 9 93 ?_; refine tkD 10 94 ?_; refine tkD 11 95 ?_; refine tkD 12 96 ?_; refine tkD 13 97 ?_; refine tkD 14 98 ?_; refine tkD 15 99 ?_; refine tkD 16 100 ?_; refine tkD 17 101 ?_; refine tkD 18 102 ?_; refine tkD 19 103 ?_; refine tkD 20 104 ?_; refine tkD 21 105 ?_; refine tkD 22 106 ?_; refine tkD 23 107 ?_; refine tkD 24 108 ?_; refine rdA 25 109 (fun K0 hK => ?_); go_simp; (with_reducible refine cmo SM.out ?_); rintro e wS ⟨bb, rfl, hiff, hbS⟩; have HI := mh hiff; have BS := mh (BD.out.trans (hbS.mono BD.out.size)); have KS := mh (KT.out _ BS.out); clear hiff hbS; obtain rfl : bb = false := by have := HI.out; simpa [HFG.out] using this
       go_wp2_with fail
       refine hK.out _ _ KS.out (fun hHeld => ?_)
       clear hK K0
       (try dsimp only [Act.put])
       try simp only [mnA, mnB, mnC]
       refine tkA 26 110 ?_
       simp only [Act.put, mnA, mnB, mnC]; refine tkD 27 111 ?_; refine tkE 28 112 ?_; refine tkE 29 113 ?_; refine tkE 30 114 ?_; refine tkE 31 115 ?_; refine tkE 32 116 ?_; refine tkE 33 117 ?_; refine tkE 34 118 ?_; refine tkE 35 119 ?_; refine tkE 36 120 ?_; refine tkE 37 121 ?_; refine tkE 38 122 ?_; refine tkE 39 123 ?_; refine tkD 40 124 ?_; refine wpAnyH_done (by kernel_rfl) ?_ _; refine NoPanic.normal ?_
       go_wp2_with fail
       go_roundw
       case rel => exact ⟨i + 1, by omega, by go_num, BS.out⟩
       case measure => simp [intOf]; omega
      ·have HFG := mh hfg
       have hx1 : x.chg = [⟨8, -1⟩] := RI.out (by rw [← hff, hfa]; exact XE.out.1) hfg; have hcn1 : cn = 1 := by rw [XE.out.2.2.2, hx1]; rfl
       rw [hx1] at CHA; have hcnI : (cn : Int) = 1 := by omega
       have u1 : ((cn : Int) != 1) = false := by rw [hcnI]; rfl
       have u2 : (0 : Int) < (cn : Int) := by omega
       have u3 : (cn != 1) = false := by rw [hcn1]; rfl
       have u4 : 0 < cn := by omega
       obtain ⟨bc, oc, rfl, -, k0, k1⟩ := Re.SCh_at CHA.out (k := 0) (by simp)
       have KT := mh (fun (W : World) (hb : Below w8.heap.size w8 W) => show W.cell? ⟨bf, of + i * 3, none⟩ = some (I O ff) ∧ W.cell? ⟨gx, 0, none⟩ = some (I O xf) ∧ W.cell? ⟨gx, 3, none⟩ = some (.slice (some ⟨bc, oc, none⟩) cn cc) ∧ W.cell? ⟨bc, oc, none⟩ = some (I O 8) ∧ W.cell? ⟨bc, oc + 1, none⟩ = some (I O (-1)) from ⟨FC.out W hb, (XF.out W hb).1, (XF.out W hb).2, by
        obtain ⟨b', o', e', -, k2, k3⟩ := Re.SCh_at (CHA.out.below hb) (k := 0) (by simp)
        cases e'
        simp only [Nat.zero_mul, Nat.add_zero, List.getElem_cons_zero] at k2 k3
        exact ⟨k2, k3⟩⟩)
       clear hfg RI efi egi hff hfa hx1 k0 k1 hcnI hcn1
       go_wp2_with fail
       refine wp_region_noPanic ?_
       refine wp_region_held_drew (S := fun w' => w'.cell? ⟨bf, of + i * 3, none⟩ = some (I O ff) ∧ w'.cell? ⟨gx, 0, none⟩ = some (I O xf) ∧ w'.cell? ⟨gx, 3, none⟩ = some (.slice (some ⟨bc, oc, none⟩) cn cc) ∧ w'.cell? ⟨bc, oc, none⟩ = some (I O 8) ∧ w'.cell? ⟨bc, oc + 1, none⟩ = some (I O (-1))) (by kernel_rfl) (KT.out _ BD.out) (fun hHeld => ?_)
       generalize wi.drew = wd_ at *; refine tkD 0 84 ?_; refine tkD 1 85 ?_; refine tkD 2 86 ?_; refine tkD 3 87 ?_; refine tkD 4 88 ?_; refine tkD 5 89 ?_; refine tkD 6 90 ?_; refine tkD 7 91 ?_; refine tkD 8 92 ?_; refine tkD 9 93 ?_; refine tkD 10 94 ?_; refine tkD 11 95 ?_; refine tkD 12 96 ?_; refine tkD 13 97 ?_; refine tkD 14 98 ?_; refine tkD 15 99 ?_; refine tkD 16 100 ?_; refine tkD 17 101 ?_; refine tkD 18 102 ?_; refine tkD 19 103 ?_; refine tkD 20 104 ?_; refine tkD 21 105 ?_; refine tkD 22 106 ?_; refine tkD 23 107 ?_; refine tkD 24 108 ?_; refine rdA 25 109 (fun K0 hK => ?_); go_simp; (with_reducible refine cmo SM.out ?_); rintro e wS ⟨bb, rfl, hiff, hbS⟩; have HI := mh hiff; have BS := mh (BD.out.trans (hbS.mono BD.out.size)); have KS := mh (KT.out _ BS.out); clear hiff hbS; obtain rfl : bb = true := by have := HI.out; simpa [HFG.out] using this
       go_wp2_with fail
       refine hK.out _ _ KS.out (fun hHeld => ?_)
       clear hK K0
       (try dsimp only [Act.put])
       try simp only [mnA, mnB, mnC]
       refine tkA 26 110 ?_
       simp only [Act.put, mnA, mnB, mnC]; refine tkD 27 111 ?_; refine tkD 28 112 ?_; refine tkD 29 113 ?_; refine tkD 30 114 ?_; refine tkD 31 115 ?_; refine tkD 32 116 ?_; refine tkD 33 117 ?_; refine tkD 34 118 ?_; refine tkD 35 119 ?_; refine tkD 36 120 ?_; refine tkD 37 121 ?_; refine tkD 38 122 ?_; refine tkD 39 123 ?_; refine tkD 40 124 ?_; refine wpAnyH_done (by kernel_rfl) ?_ _; refine NoPanic.normal ?_
       go_wp2_with fail
       go_roundw
       case rel => exact ⟨i + 1, by omega, by go_num, BS.out⟩
       case measure => simp [intOf]; omega
    ·obtain rfl : i = nF := by omega
     clear hbi
     go_wp2_with fail
     go_roundw
     case rel => exact ⟨k + 1, by omega, by go_num, BA.out.trans (HBI.out.mono BA.out.size)⟩
     case measure => simp [intOf]; omega
  ·obtain rfl : k = nD := by omega
   have OO := mh (O7.out.below hb); clear hb
   go_wp2_with (go_at_call 38; (with_reducible refine cmo (awake38_any _) ?_); rintro e w9 ⟨rfl, hb9⟩; have HB9 := mh (bnext OO.out.low OO.out.low.size hb9); clear hb9)
   go_ret
   exact ⟨rfl, HB9.out⟩
end Go.Proofs.YtmlfcpglhipjgaaGreat
