/-
  PACKED (pack8.py): what is needed of the texts Q17.
-/
import Derived.Test.YtmlfcpglhipjgaaGreatM11
import Derived.Test.YtmlfcpglhipjgaaGreatM12
set_option maxRecDepth 100000
set_option maxHeartbeats 4000000
open Go.Value renaming int → I
open Go.IntKind renaming i64 → O
namespace Go.Proofs.YtmlfcpglhipjgaaGreat
open Go.RowKit Sc As
theorem check34_any {Q : Nat → Prop} (d : Nat) (r : RY) (l : YLaw) (w : World) (h : YV Q w d r l) (hsc : r.sn ≤ r.sc) :
  Calls Tryz.prog 21 #[.agg (yCells r).toArray] w (IntG (chkY l) w) := by
 have hs0 := h.sch.len; obtain ⟨sp, sn, sc, tp, tn, tc, ldue, llast, lmille, gp, gn, gc, cp, ev, un, wd⟩ := r; obtain ⟨sch, steps, ⟨ldue', llast', lmille'⟩, deg, cp', ev', un', wd'⟩ := l; have e1 := h.sn; have e2 := h.tn; have e3 := h.due; have e4 := h.last; have e5 := h.mille; have e6 := h.gn; have e7 := h.cap; have e8 := h.env; have e9 := h.unit; have e10 := h.width; simp only at e1 e2 e3 e4 e5 e6 e7 e8 e9 e10 hsc; subst e1 e2 e3 e4 e5 e6 e7 e8 e9 e10; have C17 := mh (fun (W : World) (hb : Below w.heap.size w W) => check17_any d sp sch sc W (h.sch.below hb) h.small hsc); have CR := mh (fun (W : World) (hb : Below w.heap.size w W) => rcheck_any tp steps tc W (h.steps.below hb)); have CL := mh (fun (W : World) => check30_any ldue llast lmille W); have CC := mh (fun (W : World) (hb : Below w.heap.size w W) => check_any gp deg gc W (h.deg.below hb)); have HA := mh (balloc mle (brf w.heap.size w) (.cells #[.slice sp sch.length sc, .slice tp steps.length tc, I O ldue, I O llast, I O lmille, .slice gp deg.length gc, I O cp, I O ev, I O un, I O wd] 29))
 have EV := mh (show chkY ⟨sch, steps, ⟨ldue, llast, lmille⟩, deg, cp, ev, un, wd⟩ = if sch.length = 0 then 17 else if (chk17 sch).2 ≠ 0 then (chk17 sch).2 else if Re.chk steps ≠ 0 then Re.chk steps else if chkL ⟨ldue, llast, lmille⟩ ≠ 0 then chkL ⟨ldue, llast, lmille⟩ else if Ce.chk deg ≠ 0 then Ce.chk deg
  else if En.money cp = false ∨ En.money ev = false then 67 else if un < 1 ∨ 100000 < un ∨ wd < 0 ∨ 200 < wd then 2 else 0 from rfl)
 obtain ⟨V, eV⟩ : ∃ V, chkY ⟨sch, steps, ⟨ldue, llast, lmille⟩, deg, cp, ev, un, wd⟩ = V := ⟨_, rfl⟩; obtain ⟨⟨v1, v2⟩, ev17⟩ : ∃ v, chk17 sch = v := ⟨_, rfl⟩; obtain ⟨x1, ex1⟩ : ∃ x, Re.chk steps = x := ⟨_, rfl⟩; obtain ⟨x2, ex2⟩ : ∃ x, chkL ⟨ldue, llast, lmille⟩ = x := ⟨_, rfl⟩; obtain ⟨x3, ex3⟩ : ∃ x, Ce.chk deg = x := ⟨_, rfl⟩; rw [eV, ev17, ex1, ex2, ex3] at EV; rw [eV]; rw [ev17] at C17; rw [ex1] at CR; rw [ex2] at CL; rw [ex3] at CC; clear eV ev17 ex1 ex2 ex3 h hsc; simp only [yCells]
 by_cases hz : sch.length = 0
 ·have E := mh (show V = 17 from by rw [EV.out, if_pos hz])
  clear EV C17 CR CL CC hs0; have hz' : ((sch.length : Int) == 0) = true := by rw [hz]; rfl
  clear hz
  go_enter Tryz.func21, Tryz.ntmps21
  go_wp2
  go_ret
  exact ⟨by rw [E.out]; rfl, HA.out⟩
 have hz' : ((sch.length : Int) == 0) = false := by
  rw [← Bool.not_eq_true]; intro e; exact hz (by simpa using e)
 by_cases h17 : v2 = 0
 rotate_left
 ·have E := mh (show V = v2 from by rw [EV.out, if_neg hz]; simp only; rw [if_pos h17])
  have hne : (v2 != 0) = true := by simpa using h17
  clear EV CR CL CC hz h17
  go_enter Tryz.func21, Tryz.ntmps21
  go_wp2_with (go_at_call 58; (with_reducible refine cmo (C17.out _ HA.out) ?_); rintro e w1 ⟨rfl, hb1⟩; have HB1 := mh (bstep mle HA.out hb1); have S1 := mh (show w.heap.size < w1.heap.size from nll (by simp) hb1.size); have K1 := mcell hb1 1; have K2 := mcell hb1 2; have K3 := mcell hb1 3; have K4 := mcell hb1 4; have K5 := mcell hb1 5; have K6 := mcell hb1 6; have K7 := mcell hb1 7; have K8 := mcell hb1 8; have K9 := mcell hb1 9; clear hb1)
  go_ret
  exact ⟨by rw [E.out]; rfl, HB1.out⟩
 subst h17
 have EV2 := mh (show V = if x1 ≠ 0 then x1 else if x2 ≠ 0 then x2 else if x3 ≠ 0 then x3 else if En.money cp = false ∨ En.money ev = false then 67 else if un < 1 ∨ 100000 < un ∨ wd < 0 ∨ 200 < wd then 2 else 0 from by
  rw [EV.out, if_neg hz]; simp only; rw [if_neg (by decide)])
 have MO1 := mh (fun (W : World) => money34_any cp W); have MO2 := mh (fun (W : World) => money34_any ev W); obtain ⟨m1, em1⟩ : ∃ m, En.money cp = m := ⟨_, rfl⟩; obtain ⟨m2, em2⟩ : ∃ m, En.money ev = m := ⟨_, rfl⟩; rw [em1, em2] at EV2; rw [em1] at MO1; rw [em2] at MO2; clear EV hz em1 em2
 go_enter Tryz.func21, Tryz.ntmps21
 go_wp2_with (go_at_call 58; (with_reducible refine cmo (C17.out _ HA.out) ?_); rintro e w1 ⟨rfl, hb1⟩; have HB1 := mh (bstep mle HA.out hb1); have S1 := mh (show w.heap.size < w1.heap.size from nll (by simp) hb1.size); have K1 := mcell hb1 1; have K2 := mcell hb1 2; have K3 := mcell hb1 3; have K4 := mcell hb1 4; have K5 := mcell hb1 5; have K6 := mcell hb1 6; have K7 := mcell hb1 7; have K8 := mcell hb1 8; have K9 := mcell hb1 9; clear hb1)
 go_region_held3 (fun w' => w'.cell? ⟨w.heap.size, 1, none⟩ = some (.slice tp steps.length tc) ∧ w'.cell? ⟨w.heap.size, 2, none⟩ = some (I O ldue) ∧ w'.cell? ⟨w.heap.size, 3, none⟩ = some (I O llast) ∧ w'.cell? ⟨w.heap.size, 4, none⟩ = some (I O lmille) ∧ w'.cell? ⟨w.heap.size, 5, none⟩ = some (.slice gp deg.length gc))
  (first | with_reducible exact ⟨K1, K2, K3, K4, K5⟩ | with_reducible exact ⟨L1, L2, L3, L4, L5⟩ | with_reducible exact ⟨M1, M2, M3, M4, M5⟩ | with_reducible exact ⟨N1, N2, N3, N4, N5⟩ | go_keep) (first | (go_at_call 59; (with_reducible refine cmo (CR.out _ HB1.out.drew) ?_); rintro e w2 ⟨rfl, hb2⟩; have HB2 := mh (bstep mle HB1.out.drew hb2); have S2 := mh (show w.heap.size < w2.heap.size from nll S1.out hb2.size); have L1 := (hb2.cell (p := ⟨w.heap.size, 1, none⟩) S1.out).trans K1; have L2 := (hb2.cell (p := ⟨w.heap.size, 2, none⟩) S1.out).trans K2; have L3 := (hb2.cell (p := ⟨w.heap.size, 3, none⟩) S1.out).trans K3; have L4 := (hb2.cell (p := ⟨w.heap.size, 4, none⟩) S1.out).trans K4; have L5 := (hb2.cell (p := ⟨w.heap.size, 5, none⟩) S1.out).trans K5; have L6 := (hb2.cell (p := ⟨w.heap.size, 6, none⟩) S1.out).trans K6; have L7 := (hb2.cell (p := ⟨w.heap.size, 7, none⟩) S1.out).trans K7; have L8 := (hb2.cell (p := ⟨w.heap.size, 8, none⟩) S1.out).trans K8; have L9 := (hb2.cell (p := ⟨w.heap.size, 9, none⟩) S1.out).trans K9; clear hb2) | (go_at_call 60; (with_reducible refine cmo (CL.out _) ?_); rintro e w3 ⟨rfl, hb3⟩; have HB3 := mh (bstep mle HB2.out hb3); have S3 := mh (show w.heap.size < w3.heap.size from nll S2.out hb3.size); have M1 := (hb3.cell (p := ⟨w.heap.size, 1, none⟩) S2.out).trans L1; have M2 := (hb3.cell (p := ⟨w.heap.size, 2, none⟩) S2.out).trans L2; have M3 := (hb3.cell (p := ⟨w.heap.size, 3, none⟩) S2.out).trans L3; have M4 := (hb3.cell (p := ⟨w.heap.size, 4, none⟩) S2.out).trans L4; have M5 := (hb3.cell (p := ⟨w.heap.size, 5, none⟩) S2.out).trans L5; have M6 := (hb3.cell (p := ⟨w.heap.size, 6, none⟩) S2.out).trans L6; have M7 := (hb3.cell (p := ⟨w.heap.size, 7, none⟩) S2.out).trans L7; have M8 := (hb3.cell (p := ⟨w.heap.size, 8, none⟩) S2.out).trans L8; have M9 := (hb3.cell (p := ⟨w.heap.size, 9, none⟩) S2.out).trans L9; clear hb3) | (go_at_call 61; (with_reducible refine cmo (CC.out _ HB3.out) ?_); rintro e w4 ⟨rfl, hb4⟩; have HB4 := mh (bstep mle HB3.out hb4); have S4 := mh (show w.heap.size < w4.heap.size from nll S3.out hb4.size); have N1 := (hb4.cell (p := ⟨w.heap.size, 1, none⟩) S3.out).trans M1; have N2 := (hb4.cell (p := ⟨w.heap.size, 2, none⟩) S3.out).trans M2; have N3 := (hb4.cell (p := ⟨w.heap.size, 3, none⟩) S3.out).trans M3; have N4 := (hb4.cell (p := ⟨w.heap.size, 4, none⟩) S3.out).trans M4; have N5 := (hb4.cell (p := ⟨w.heap.size, 5, none⟩) S3.out).trans M5; have N6 := (hb4.cell (p := ⟨w.heap.size, 6, none⟩) S3.out).trans M6; have N7 := (hb4.cell (p := ⟨w.heap.size, 7, none⟩) S3.out).trans M7; have N8 := (hb4.cell (p := ⟨w.heap.size, 8, none⟩) S3.out).trans M8; have N9 := (hb4.cell (p := ⟨w.heap.size, 9, none⟩) S3.out).trans M9; clear hb4) | fail)
 go_wp2
 obtain ⟨G0, G1, G2⟩ : (w4.alloc (.cells #[I O x1, I O x2, I O x3] 39)).cell? ⟨w4.heap.size, 0, none⟩ = some (I O x1) ∧ (w4.alloc (.cells #[I O x1, I O x2, I O x3] 39)).cell? ⟨w4.heap.size, 1, none⟩ = some (I O x2) ∧ (w4.alloc (.cells #[I O x1, I O x2, I O x3] 39)).cell? ⟨w4.heap.size, 2, none⟩ = some (I O x3) := ⟨cwn _ _ _ 0, cwn _ _ _ 1, cwn _ _ _ 2⟩; have HB5 := mh (balloc mle HB4.out (.cells #[I O x1, I O x2, I O x3] 39)); have hb5 := (brf w4.heap.size w4).alloc mle (.cells #[I O x1, I O x2, I O x3] 39); have O4 := (hb5.cell (p := ⟨w.heap.size, 4, none⟩) S4.out).trans N4; have O5 := (hb5.cell (p := ⟨w.heap.size, 5, none⟩) S4.out).trans N5; have O6 := (hb5.cell (p := ⟨w.heap.size, 6, none⟩) S4.out).trans N6; have O7 := (hb5.cell (p := ⟨w.heap.size, 7, none⟩) S4.out).trans N7; have O8 := (hb5.cell (p := ⟨w.heap.size, 8, none⟩) S4.out).trans N8; have O9 := (hb5.cell (p := ⟨w.heap.size, 9, none⟩) S4.out).trans N9
  
 generalize w4.alloc (.cells #[I O x1, I O x2, I O x3] 39) = W5 at *; generalize w4.heap.size = b5 at *; clear hb5 K1 K2 K3 K4 K5 K6 K7 K8 K9 L1 L2 L3 L4 L5 L6 L7 L8 L9 M1 M2 M3 M4 M5 M6 M7 M8 M9 N1 N2 N3 N4 N5 N6 N7 N8 N9 C17 CR CL CC HB1 HB2 HB3 HB4 S1 S2 S3 S4 HA
 go_loop [31] (fun i => ∃ k : Nat, k ≤ 3 ∧ i = I O k ∧ (0 < k → x1 = 0) ∧ (1 < k → x2 = 0) ∧ (2 < k → x3 = 0)) (fun i => 3 - (intOf i).toNat)
 case atStart => exact ⟨0, by omega, rfl, by omega, by omega, by omega⟩
 case round =>
  obtain ⟨k, hk, rfl, h1, h2, h3⟩ := hrel
  rcases (show k = 0 ∨ k = 1 ∨ k = 2 ∨ k = 3 by omega) with rfl | rfl | rfl | rfl
  ·clear h1 h2 h3 hk
   rw [show ((0 : Nat) : Int) = 0 from rfl]
   by_cases hx : x1 = 0
   ·have H1 := mh hx
    have hx' : (x1 != 0) = false := by simp [hx]
    clear hx
    go_wp2
    go_round
    case rel => exact ⟨1, by omega, rfl, fun _ => H1.out, by omega, by omega⟩
    case measure => simp [intOf]
   ·have E := mh (show V = x1 from by rw [EV2.out, if_pos hx])
    have hx' : (x1 != 0) = true := by simpa using hx
    clear hx EV2
    go_wp2
    go_ret
    exact ⟨by rw [E.out]; rfl, HB5.out⟩
  ·have z1 := h1 (by omega)
   have H1 := mh z1; clear h1 h2 h3 hk z1; rw [show ((1 : Nat) : Int) = 1 from rfl]
   by_cases hx : x2 = 0
   ·have H2 := mh hx
    have hx' : (x2 != 0) = false := by simp [hx]
    clear hx
    go_wp2
    go_round
    case rel => exact ⟨2, by omega, rfl, fun _ => H1.out, fun _ => H2.out, by omega⟩
    case measure => simp [intOf]
   ·have E := mh (show V = x2 from by rw [EV2.out, if_neg (by rw [H1.out]; decide), if_pos hx])
    have hx' : (x2 != 0) = true := by simpa using hx
    clear hx EV2
    go_wp2
    go_ret
    exact ⟨by rw [E.out]; rfl, HB5.out⟩
  ·have z1 := h1 (by omega)
   have H1 := mh z1; have z2 := h2 (by omega); have H2 := mh z2; clear h1 h2 h3 hk z1 z2; rw [show ((2 : Nat) : Int) = 2 from rfl]
   by_cases hx : x3 = 0
   ·have H3 := mh hx
    have hx' : (x3 != 0) = false := by simp [hx]
    clear hx
    go_wp2
    go_round
    case rel => exact ⟨3, by omega, rfl, fun _ => H1.out, fun _ => H2.out, fun _ => H3.out⟩
    case measure => simp [intOf]
   ·have E := mh (show V = x3 from by rw [EV2.out, if_neg (by rw [H1.out]; decide), if_neg (by rw [H2.out]; decide), if_pos hx])
    have hx' : (x3 != 0) = true := by simpa using hx
    clear hx EV2
    go_wp2
    go_ret
    exact ⟨by rw [E.out]; rfl, HB5.out⟩
  ·have z1 := h1 (by omega)
   have z2 := h2 (by omega); have z3 := h3 (by omega)
   have E := mh (show V = if m1 = false ∨ m2 = false then 67 else if un < 1 ∨ 100000 < un ∨ wd < 0 ∨ 200 < wd then 2 else 0 from by
    rw [EV2.out, if_neg (by rw [z1]; decide), if_neg (by rw [z2]; decide), if_neg (by rw [z3]; decide)])
   clear h1 h2 h3 hk z1 z2 z3 EV2 G0 G1 G2; rw [show ((3 : Nat) : Int) = 3 from rfl]
   cases m1
   ·have E2 := mh (show V = 67 from by rw [E.out, if_pos (.inl rfl)])
    clear E
    go_wp2_with (go_at_call 62; (with_reducible refine cmo (MO1.out _) ?_); rintro e w6 ⟨rfl, rfl⟩)
    go_ret
    exact ⟨by rw [E2.out]; rfl, HB5.out⟩
   cases m2
   ·have E2 := mh (show V = 67 from by rw [E.out, if_pos (.inr rfl)])
    clear E
    go_wp2_with (first | (go_at_call 62; (with_reducible refine cmo (MO1.out _) ?_); rintro e w6 ⟨rfl, rfl⟩) | (go_at_call 62; (with_reducible refine cmo (MO2.out _) ?_); rintro e w7 ⟨rfl, rfl⟩) | fail)
    go_ret
    exact ⟨by rw [E2.out]; rfl, HB5.out⟩
   have E1 := mh (show V = if un < 1 ∨ 100000 < un ∨ wd < 0 ∨ 200 < wd then 2 else 0 from by rw [E.out, if_neg (by decide)]); clear E
   by_cases u1 : un < 1
   ·have E2 := mh (show V = 2 from by rw [E1.out, if_pos (.inl u1)])
    clear E1
    go_wp2_with (first | (go_at_call 62; (with_reducible refine cmo (MO1.out _) ?_); rintro e w6 ⟨rfl, rfl⟩) | (go_at_call 62; (with_reducible refine cmo (MO2.out _) ?_); rintro e w7 ⟨rfl, rfl⟩) | fail)
    go_ret
    exact ⟨by rw [E2.out]; rfl, HB5.out⟩
   by_cases u2 : 100000 < un
   ·have E2 := mh (show V = 2 from by rw [E1.out, if_pos (.inr (.inl u2))])
    clear E1
    go_wp2_with (first | (go_at_call 62; (with_reducible refine cmo (MO1.out _) ?_); rintro e w6 ⟨rfl, rfl⟩) | (go_at_call 62; (with_reducible refine cmo (MO2.out _) ?_); rintro e w7 ⟨rfl, rfl⟩) | fail)
    go_ret
    exact ⟨by rw [E2.out]; rfl, HB5.out⟩
   by_cases u3 : wd < 0
   ·have E2 := mh (show V = 2 from by rw [E1.out, if_pos (.inr (.inr (.inl u3)))])
    clear E1
    go_wp2_with (first | (go_at_call 62; (with_reducible refine cmo (MO1.out _) ?_); rintro e w6 ⟨rfl, rfl⟩) | (go_at_call 62; (with_reducible refine cmo (MO2.out _) ?_); rintro e w7 ⟨rfl, rfl⟩) | fail)
    go_ret
    exact ⟨by rw [E2.out]; rfl, HB5.out⟩
   by_cases u4 : 200 < wd
   ·have E2 := mh (show V = 2 from by rw [E1.out, if_pos (.inr (.inr (.inr u4)))])
    clear E1
    go_wp2_with (first | (go_at_call 62; (with_reducible refine cmo (MO1.out _) ?_); rintro e w6 ⟨rfl, rfl⟩) | (go_at_call 62; (with_reducible refine cmo (MO2.out _) ?_); rintro e w7 ⟨rfl, rfl⟩) | fail)
    go_ret
    exact ⟨by rw [E2.out]; rfl, HB5.out⟩
   ·have E2 := mh (show V = 0 from by rw [E1.out, if_neg (by omega)])
    clear E1
    go_wp2_with (first | (go_at_call 62; (with_reducible refine cmo (MO1.out _) ?_); rintro e w6 ⟨rfl, rfl⟩) | (go_at_call 62; (with_reducible refine cmo (MO2.out _) ?_); rintro e w7 ⟨rfl, rfl⟩) | fail)
    go_ret
    exact ⟨by rw [E2.out]; rfl, HB5.out⟩
end Go.Proofs.YtmlfcpglhipjgaaGreat
