/-
  THE WALK over the law EnvelopeAnswers.
-/
import Derived.Test.YtlmikbjnibiajaaEm
namespace Go.Proofs.Ytlmikbjnibiajaa
open Go.RowKit

theorem bstep {B : Nat} {w w1 w2 : World} (hs : B ≤ w.heap.size) (h : Below B w w1) (h2 : Below w1.heap.size w1 w2) : Below B w w2 := bnext h (Nat.le_trans hs h.size) h2

set_option maxRecDepth 100000 in
set_option maxHeartbeats 4000000 in
theorem envelopeAnswers_walk (a : Option Addr) (len cap : Nat) (z : List Int) (limit unit : Int) (b : Option Addr) (lenb capb : Nat) (zb : List Int) (w : World) (w0 : IsRow .i64 w a len cap z) (w1 : (Lit.int .i64 limit).wf = true) (w2 : (Lit.int .i64 unit).wf = true) (w3 : IsRow .i64 w b lenb capb zb) :
    Calls Try.prog 8 #[.slice a len cap, .int .i64 limit, .int .i64 unit, .slice b lenb capb] w fun e w' => e = .returned (.bool true) ∧ Below w.heap.size w w' := by
  obtain ⟨x1, x2⟩ := bd_i64 w1
  obtain ⟨y1, y2⟩ := bd_i64 w2
  have hl3 := w3.len
  have hm3 : lenb ≤ 9223372036854775807 := by have := hl3.2; unfold maxLen at this; omega
  by_cases hlen : 70 < lenb
  · clear w0 w1 w2 w3 hl3
    go_enter Try.func8, Try.ntmps8
    go_wp2_with (first | (go_at_call 33; refine (awake33_any _).mono ?_; rintro e w9 ⟨rfl, hb9⟩))
    go_ret
    exact ⟨rfl, hb9⟩
  · have HN := Lib.hid (new_any a len cap z w w0)
    obtain ⟨i5, e5⟩ := w3.ints
    have I5 := Lib.hid i5
    have E5 := Lib.hid e5
    clear w0 w1 w2 w3 hl3 i5 e5
    generalize (z.take len).take 400 = l at *
    generalize hz : zb.take lenb = ws at *
    clear hz
    have HA := Lib.hid (fun (W : World) (h : TapeAt W w.heap.size l 0) => amounts_any w.heap.size l 0 W h)
    obtain ⟨n1, n2⟩ := mod_bd unit (n := 120) (by omega)
    go_enter Try.func8, Try.ntmps8
    go_wp2_with (first | (go_at_call 21; refine (HN.out).mono ?_; rintro e w1 ⟨rfl, ht, hb1⟩) | (go_at_call 34; refine (HA.out _ ht).mono ?_; rintro e w2 ⟨p1, c1, rfl, hA, hb2⟩))
    have hbel := hb1.trans hb2
    have BEL := Lib.hid hbel
    have i51 := (I5.out.below hbel).below ((Below.refl _ _).alloc (Nat.le_refl _) (Obj.cells #[.slice p1 (amountsL l 0).length c1, .slice b lenb capb] 28))
    have i52 := hA.below ((Below.refl _ _).alloc (Nat.le_refl _) (Obj.cells #[.slice p1 (amountsL l 0).length c1, .slice b lenb capb] 28))
    have hms : ∀ k : Nat, k < 2 → ∃ (p : Option Addr) (zs : List Int) (cc : Nat), (w2.alloc (Obj.cells #[.slice p1 (amountsL l 0).length c1, .slice b lenb capb] 28)).cell? ⟨w2.heap.size, k, none⟩ = some (.slice p zs.length cc) ∧ Ints (w2.alloc (Obj.cells #[.slice p1 (amountsL l 0).length c1, .slice b lenb capb] 28)) p zs := fun k hk => by
      have : k = 0 ∨ k = 1 := by omega
      rcases this with rfl | rfl
      · exact ⟨p1, amountsL l 0, c1, by go_simp, i52⟩
      · exact ⟨b, ws, capb, by rw [E5.out]; go_simp, i51⟩
    have HMS := Lib.hid hms
    have hs0 := BEL.out.size
    clear hms i51 i52 hb1 hb2 hA ht HN HA hbel I5 E5
    go_loopw [39] (fun i wx => ∃ k : Nat, k ≤ 2 ∧ i = .int .i64 k ∧ Below (w2.heap.size + 1) (w2.alloc (Obj.cells #[.slice p1 (amountsL l 0).length c1, .slice b lenb capb] 28)) wx) (fun i _ => 2 - (intOf i).toNat)
    case atStart => exact ⟨0, by omega, rfl, Below.refl _ _⟩
    case round =>
      obtain ⟨wo, rfl⟩ : ∃ wo : World, wo = wr := ⟨_, rfl⟩
      obtain ⟨k, hk, rfl, hbo⟩ := hrel
      have hszo := hbo.size
      simp only [World.size_alloc] at hszo
      by_cases hlt : k < 2
      · obtain ⟨p, zs, cc, c0, hI⟩ := HMS.out k hlt
        have k1 := (hbo.cell (p := ⟨_, k, none⟩) (by simp)).trans c0
        have hI1 := hI.below (hbo.mono (by simp))
        have i60 := hI1.below ((Below.refl _ _).alloc (Nat.le_refl _) (Obj.cells #[.int .i64 limit, .int .i64 (mod limit 20000), .int .i64 68719476736] 3))
        have hns : ∀ j : Nat, j < 3 → ∃ n : Int, (wo.alloc (Obj.cells #[.int .i64 limit, .int .i64 (mod limit 20000), .int .i64 68719476736] 3)).cell? ⟨wo.heap.size, j, none⟩ = some (.int .i64 n) := fun j hj => by
          have : j = 0 ∨ j = 1 ∨ j = 2 := by omega
          rcases this with rfl | rfl | rfl
          · exact ⟨limit, by go_simp⟩
          · exact ⟨mod limit 20000, by go_simp⟩
          · exact ⟨68719476736, by go_simp⟩
        have HNS := Lib.hid hns
        have I60 := Lib.hid i60
        have HBO := Lib.hid hbo
        clear hns i60 hI hI1 hbo c0 HMS
        go_wp2_with (first | (go_at_call 24; refine (mod_any _ _ _ (by omega) (by omega)).mono ?_; rintro e w' ⟨rfl, rfl⟩))
        go_loopw [48] (fun i wy => ∃ j : Nat, j ≤ 3 ∧ i = .int .i64 j ∧ Below (wo.heap.size + 1) (wo.alloc (Obj.cells #[.int .i64 limit, .int .i64 (mod limit 20000), .int .i64 68719476736] 3)) wy) (fun i _ => 3 - (intOf i).toNat)
        case atStart => exact ⟨0, by omega, rfl, Below.refl _ _⟩
        case round =>
          obtain ⟨wi, rfl⟩ : ∃ wi : World, wi = wr := ⟨_, rfl⟩
          obtain ⟨j, hj, rfl, hbi⟩ := hrel
          have hszi := hbi.size
          simp only [World.size_alloc] at hszi
          by_cases hjl : j < 3
          · obtain ⟨en, c0⟩ := HNS.out j hjl
            have k2 := (hbi.cell (p := ⟨_, j, none⟩) (by simp)).trans c0
            have i70 := (I60.out.below (hbi.mono (by simp))).below ((Below.refl _ _).alloc (Nat.le_refl _) (Obj.cells #[.int .i64 unit, .int .i64 (1 + mod unit 120), .int .i64 100000] 3))
            have hus : ∀ j : Nat, j < 3 → ∃ n : Int, (wi.alloc (Obj.cells #[.int .i64 unit, .int .i64 (1 + mod unit 120), .int .i64 100000] 3)).cell? ⟨wi.heap.size, j, none⟩ = some (.int .i64 n) := fun j hj => by
              have : j = 0 ∨ j = 1 ∨ j = 2 := by omega
              rcases this with rfl | rfl | rfl
              · exact ⟨unit, by go_simp⟩
              · exact ⟨1 + mod unit 120, by go_simp⟩
              · exact ⟨100000, by go_simp⟩
            have HUS := Lib.hid hus
            have I70 := Lib.hid i70
            have HBI := Lib.hid hbi
            clear hus i70 hbi c0 HNS
            go_wp2_with (first | (go_at_call 24; refine (mod_any _ _ _ (by omega) (by omega)).mono ?_; rintro e w' ⟨rfl, rfl⟩))
            go_loopw [58] (fun i wy => ∃ j : Nat, j ≤ 3 ∧ i = .int .i64 j ∧ Below (wi.heap.size + 1) (wi.alloc (Obj.cells #[.int .i64 unit, .int .i64 (1 + mod unit 120), .int .i64 100000] 3)) wy) (fun i _ => 3 - (intOf i).toNat)
            case atStart => exact ⟨0, by omega, rfl, Below.refl _ _⟩
            case round =>
              obtain ⟨wj, rfl⟩ : ∃ wj : World, wj = wr := ⟨_, rfl⟩
              obtain ⟨m, hm, rfl, hbj⟩ := hrel
              have hszj := hbj.size
              simp only [World.size_alloc] at hszj
              by_cases hml : m < 3
              · obtain ⟨un, c0⟩ := HUS.out m hml
                have k3 := (hbj.cell (p := ⟨_, m, none⟩) (by simp)).trans c0
                have I80 := Lib.hid (I70.out.below (hbj.mono (by simp)))
                have HBJ := Lib.hid hbj
                clear hbj c0 HUS
                go_wp2_with (first | (go_at_call 35; refine (scale_any en un p zs cc _ I80.out).mono ?_; rintro e wa ⟨pa, ca, rfl, hla, hba⟩; have i1 := I80.out.below hba) | (go_at_call 36; refine (refscale_any en un p zs cc _ i1).mono ?_; rintro e wb ⟨pb, cb, rfl, hlb, hbb⟩; have i2 := i1.below hbb) | (go_at_call 37; refine (factor_any en un p zs cc _ i2).mono ?_; rintro e wc ⟨rfl, hbc⟩; have i3 := i2.below hbc) | (go_at_call 38; refine (reffactor_any en un p zs cc _ i3).mono ?_; rintro e wd ⟨rfl, hbd⟩; have i4 := i3.below hbd; have hint := refints24_any pa pb (En.scale en un zs) (En.scale en un zs) ca cb wd (((hla.below hbb).below hbc).below hbd) ((hlb.below hbc).below hbd); rw [decide_eq_true rfl] at hint) | (go_at_call 39; refine hint.mono ?_; rintro e we ⟨rfl, m1, rfl⟩; have i5 := i4.below (drewN_below wd m1)) | (go_at_call 40; refine (scaled_any en un p zs cc _ i5).mono ?_; rintro e wf ⟨rfl, hbf⟩; have i6 := i5.below hbf) | (go_at_call 41; refine (refscaled_any en un p zs cc _ i6).mono ?_; rintro e wg ⟨rfl, hbg⟩))
                have BG := Lib.hid (bstep (Nat.le_refl _) (bstep (Nat.le_refl _) (bstep (Nat.le_refl _) (bstep (Nat.le_refl _) (bstep (Nat.le_refl _) (bstep (Nat.le_refl _) hba hbb) hbc) hbd) (drewN_below wd m1)) hbf) hbg)
                clear hba hbb hbc hbd hbf hbg hla hlb hint i1 i2 i3 i4 i5 i6
                go_roundw
                case rel => exact ⟨m + 1, by omega, by go_num, bnext HBJ.out hszj BG.out⟩
                case measure => simp [intOf]; omega
              · obtain rfl : m = 3 := by omega
                have HBJ := Lib.hid hbj
                clear hbj hml hm
                go_wp2
                go_roundw
                case rel => exact ⟨j + 1, by omega, by go_num, bnext (HBI.out.alloc hszi _) (by simp; omega) (HBJ.out.mono (by simp))⟩
                case measure => simp [intOf]; omega
          · obtain rfl : j = 3 := by omega
            have HBI := Lib.hid hbi
            clear hbi hjl hj
            go_wp2
            go_roundw
            case rel => exact ⟨k + 1, by omega, by go_num, bnext (HBO.out.alloc hszo _) (by simp; omega) (HBI.out.mono (by simp))⟩
            case measure => simp [intOf]; omega
      · obtain rfl : k = 2 := by omega
        have HBO := Lib.hid hbo
        clear hbo hlt hk
        go_wp2_with (first | (go_at_call 33; refine (awake33_any _).mono ?_; rintro e wz ⟨rfl, hbz⟩))
        go_ret
        exact ⟨rfl, bnext (bnext (BEL.out.alloc hs0 _) (by simp; omega) (HBO.out.mono (by simp))) (by omega) hbz⟩

end Go.Proofs.Ytlmikbjnibiajaa
