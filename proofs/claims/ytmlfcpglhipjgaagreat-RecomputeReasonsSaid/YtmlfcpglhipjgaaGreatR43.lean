/-
  PACKED (pack8.py): what is needed of the texts Sk.
-/
import Derived.Test.YtmlfcpglhipjgaaGreatR42
set_option maxRecDepth 100000
set_option maxHeartbeats 8000000
open Go.Value renaming int → I
open Go.IntKind renaming i64 → O
namespace Go.Proofs.YtmlfcpglhipjgaaGreat
open Go.RowKit Sc As
theorem refsame34_one {Q Q2 : Nat → Prop} (p q : Option Addr) (f g : FarmF) (c d : Nat) (w : World) (h : FsAt Q w p [f]) (h2 : FsAt Q2 w q [g]) :
  Calls Tryz.prog 50 #[.slice p 1 c, .slice q 1 d] w (IffG (f = g) w) := by
 have H := mh h; have K := mh h2; have hl1 : f.lines.length ≤ 9223372036854775807 := by
  obtain ⟨b, off, r, -, -, -, hv⟩ := h.at (show 0 < [f].length from Nat.one_pos); exact hv.lines.len
 clear h h2
 go_enter Tryz.func50, Tryz.ntmps50
 go_wp2_with fail
 go_loopw [5] (fun iv W => (iv = I O 0 ∨ (iv = I O 1 ∧ f = g)) ∧ Below w.heap.size w W) (fun iv _ => 1 - (intOf iv).toNat)
 case atStart => exact ⟨.inl rfl, brf _ _⟩
 case round =>
  obtain ⟨wo, rfl⟩ : ∃ wo : World, wo = wr := ⟨_, rfl⟩; obtain ⟨hi, hb⟩ := hrel; have HB := mh hb
  rcases hi with rfl | ⟨rfl, hfg⟩
  ·obtain ⟨b, off, ⟨xf, xd, lp, ln, lc⟩, rfl, hbl, ⟨c0, c1, c2⟩, hv⟩ := (H.out.below hb).at (show 0 < [f].length from Nat.one_pos)
   obtain ⟨b', off', ⟨yf, yd, mp, mn, mc⟩, rfl, hbl', ⟨d0, d1, d2⟩, hu⟩ := (K.out.below hb).at (show 0 < [g].length from Nat.one_pos); simp only [List.getElem_cons_zero, Nat.zero_mul, Nat.add_zero] at c0 c1 c2 d0 d1 d2 hv hu; have e1 := hv.farm; have e2 := hv.day; have e3 := hv.ln; have e4 := hu.farm; have e5 := hu.day; have e6 := hu.ln; simp only at e1 e2 e3 e4 e5 e6; have FL := mh (show LsAt Q wo lp f.lines from hv.lines); have GL := mh (show LsAt Q2 wo mp g.lines from hu.lines); have EF := mh (And.intro e1 (And.intro e2 e3)); have EG := mh (And.intro e4 (And.intro e5 e6)); have lnB : ln ≤ 9223372036854775807 := by omega
   clear hv hu e1 e2 e3 e4 e5 e6 hb
   by_cases x1 : xf = yf
   rotate_left
   ·have s1 : (xf != yf) = true := by simpa using x1
    have HX := mh x1; clear x1
    go_wp2_with fail
    go_quiet (fail)
    go_wp2_with fail
    go_ret
    exact ⟨false, rfl, ⟨fun e => (by cases e), fun e => absurd (by rw [EF.out.1, EG.out.1, e]) HX.out⟩, HB.out.trans ((drewN_below _ _).mono HB.out.size)⟩
   have HX1 := mh x1; have s1 : (xf != yf) = false := by simpa using x1
   clear x1
   by_cases x2 : xd = yd
   rotate_left
   ·have s2 : (xd != yd) = true := by simpa using x2
    have HX := mh x2; clear x2
    go_wp2_with fail
    go_quiet (fail)
    go_wp2_with fail
    go_ret
    exact ⟨false, rfl, ⟨fun e => (by cases e), fun e => absurd (by rw [EF.out.2.1, EG.out.2.1, e]) HX.out⟩, HB.out.trans ((drewN_below _ _).mono HB.out.size)⟩
   have HX2 := mh x2; have s2 : (xd != yd) = false := by simpa using x2
   clear x2
   by_cases x3 : ln = mn
   rotate_left
   ·have s3 : ((ln : Int) != (mn : Int)) = true := by simpa using (show ¬ (ln : Int) = (mn : Int) by omega)
    have HX := mh x3; clear x3
    go_wp2_with fail
    go_quiet (fail)
    go_wp2_with fail
    go_ret
    exact ⟨false, rfl, ⟨fun e => (by cases e), fun e => absurd (by rw [EF.out.2.2, EG.out.2.2, e]) HX.out⟩, HB.out.trans ((drewN_below _ _).mono HB.out.size)⟩
   subst x3
   go_wp2_with fail
   go_quiet (fail)
   rename_i nq
   have c0' := c0; have BD := mh (drewN_below wo nq); have HBD := mh (HB.out.trans (BD.out.mono HB.out.size)); have FLD := mh (FL.out.below BD.out); have GLD := mh (GL.out.below BD.out); have q2 := (BD.out.cell (p := ⟨b, off + 2, none⟩) hbl).trans c2; have r2 := (BD.out.cell (p := ⟨b', off' + 2, none⟩) hbl').trans d2; have hbl2 := nll hbl BD.out.size; have hbl2' := nll hbl' BD.out.size; clear c0 c1 c2 d0 d1 d2 c0' s1 s2 BD FL GL hbl hbl'; generalize wo.drewN nq = w1 at *
   go_wp2_with fail
   go_loopw [6] (fun kv W => ∃ k : Nat, k ≤ ln ∧ kv = I O k ∧ (∀ j, j < k → f.lines[j]? = g.lines[j]?) ∧ Below w1.heap.size w1 W) (fun kv _ => ln - (intOf kv).toNat)
   case atStart => exact ⟨0, Nat.zero_le _, rfl, fun j hj => absurd hj (Nat.not_lt_zero j), brf _ _⟩
   case round =>
    obtain ⟨wi, rfl⟩ : ∃ wi : World, wi = wr := ⟨_, rfl⟩; obtain ⟨k, hk, rfl, hall, hb⟩ := hrel; have HA := mh hall; have HBI := mh hb; have hk0 : (0 : Int) ≤ (k : Int) := inn _; have t2 := (hb.cell (p := ⟨b, off + 2, none⟩) hbl2).trans q2; have v2 := (hb.cell (p := ⟨b', off' + 2, none⟩) hbl2').trans r2; clear hall
    by_cases hlt : k < ln
    ·have hk1 : (k : Int) < (ln : Int) := by omega
     have hkf : k < f.lines.length := by rw [← EF.out.2.2]; exact hlt
     have hkg : k < g.lines.length := by rw [← EG.out.2.2]; exact hlt
     obtain ⟨bl, ol, rl, rfl, hll, ⟨m0, m1, m2, m3, m4, m5, m6⟩, hvl⟩ := (FLD.out.below hb).at hkf; obtain ⟨bm, om, rm, rfl, hlm, ⟨n0, n1, n2, n3, n4, n5, n6⟩, hvm⟩ := (GLD.out.below hb).at hkg; have LN := mh (reflines34_any rl rm f.lines[k] g.lines[k] wi.drew (hvl.below (brf _ _).drew) (hvm.below (brf _ _).drew)); have FE := mh (show f.lines[k]? = some f.lines[k] from List.getElem?_eq_getElem hkf); have GE := mh (show g.lines[k]? = some g.lines[k] from List.getElem?_eq_getElem hkg); obtain ⟨x, ex⟩ : ∃ x, f.lines[k] = x := ⟨_, rfl⟩; obtain ⟨y, ey⟩ : ∃ y, g.lines[k] = y := ⟨_, rfl⟩; rw [ex] at LN FE; rw [ey] at LN GE; simp only [lCells] at LN; clear hvl hvm ex ey hb
     go_wp2_with fail
     refine wp_tail 16 (by kernel_rfl) (by kernel_rfl) ?_
     simp only [List.take_succ_cons, List.take_zero, List.drop_succ_cons, List.drop_zero]
     repeat still_step
     refine wpStill_nil ?_
     change wpList _ _ _ _ _ (World.drew _)
     go_wp2_with fail
     (with_reducible refine cmo LN.out ?_); rintro e w2 ⟨bb, rfl, hiff, hb2⟩; have HI := mh hiff; have HB2 := mh (HBI.out.trans ((bdrew hb2).mono HBI.out.size)); clear hiff hb2 m0 m1 m2 m3 m4 m5 m6 n0 n1 n2 n3 n4 n5 n6
     cases bb
     ·go_wp2_with fail
      go_ret
      exact ⟨false, rfl, ⟨fun e => (by cases e), fun e => absurd (HI.out.2 (by
       have h1 := FE.out; rw [e, GE.out] at h1
       exact (Option.some.inj h1).symm)) (by simp)⟩, HBD.out.trans (HB2.out.mono HBD.out.size)⟩
     ·go_wp2_with fail
      go_roundw
      case rel => exact ⟨k + 1, by omega, by go_num, fun j hj => by
       by_cases e : j = k
       ·subst e; rw [FE.out, GE.out, HI.out.1 (by simp)]
       ·exact HA.out j (by omega), HB2.out⟩
      case measure => simp [intOf]; omega
    ·obtain rfl : k = ln := by omega
     have EQ := mh (show f = g from by
      have h1 : f.lines = g.lines := List.ext_getElem? fun j => by
       by_cases hj : j < k
       ·exact HA.out j hj
       ·rw [List.getElem?_eq_none (by rw [← EF.out.2.2]; omega), List.getElem?_eq_none (by rw [← EG.out.2.2]; omega)]
      have h2 := EF.out.1.symm.trans (HX1.out.trans EG.out.1); have h3 := EF.out.2.1.symm.trans (HX2.out.trans EG.out.2.1); obtain ⟨f1, f2, f3⟩ := f; obtain ⟨g1, g2, g3⟩ := g; simp only at h1 h2 h3
      rw [h1, h2, h3])
     clear hb
     go_wp2_with fail
     go_roundw
     case rel => exact ⟨.inr ⟨by go_num, EQ.out⟩, HBD.out.trans (HBI.out.mono HBD.out.size)⟩
     case measure => simp [intOf]
  ·have HF := mh hfg
   clear hfg hb
   go_wp2_with fail
   go_ret
   exact ⟨true, rfl, ⟨fun _ => HF.out, fun _ => rfl⟩, HB.out⟩
end Go.Proofs.YtmlfcpglhipjgaaGreat
