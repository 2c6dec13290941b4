/-
  PACKED (pack8.py): what is needed of the texts Xh.
-/
import Derived.Test.YtmlfcpglhipjgaaGreatM37
set_option maxRecDepth 100000
set_option maxHeartbeats 8000000
open Go.Value renaming int → I
open Go.IntKind renaming i64 → O
namespace Go.Proofs.YtmlfcpglhipjgaaGreat
open Go.RowKit Sc As
def Re.MvG (p : Prop) (w : World) (e : Ending) (w' : World) : Prop := ∃ b : Bool, e = .returned (.bool b) ∧ (b = true ↔ p) ∧ Below w.heap.size w w'
theorem moved_any (fa fb : Option Addr) (na ca nb cb : Nat) (pa pb : Option Addr) (A B : List Awd) (xa xb : Nat) (n1 d1 n2 d2 : Int) (v1 v2 : Bool) (farm : Int) (w : World) (hA : Recs SA w pa A) (hB : Recs SA w pb B) (lA : A.length ≤ 1000) (lB : B.length ≤ 1000) :
  Calls Tryz.prog 87 #[.agg #[.slice fa na ca, .slice pa A.length xa, I O n1, I O d1, .bool v1], .agg #[.slice fb nb cb, .slice pb B.length xb, I O n2, I O d2, .bool v2], I O farm] w (Re.MvG (n1 ≠ n2 ∨ d1 ≠ d2 ∨ ((v1 = true ∨ v2 = true) ∧ Re.others A farm ≠ Re.others B farm)) w) := by
 have OA := mh (fun (W : World) (hb : Below w.heap.size w W) => others_any fa na ca n1 d1 v1 pa A xa farm W (hA.below hb) lA); have OB := mh (fun (W : World) (hb : Below w.heap.size w W) => others_any fb nb cb n2 d2 v2 pb B xb farm W (hB.below hb) lB); obtain ⟨g, eg⟩ : ∃ g, w.heap.size = g := ⟨_, rfl⟩; have hA1 := (brf w.heap.size w).alloc mle (.cells #[.slice fa na ca, .slice pa A.length xa, I O n1, I O d1, .bool v1] 140); have hs1 : (w.alloc (.cells #[.slice fa na ca, .slice pa A.length xa, I O n1, I O d1, .bool v1] 140)).heap.size = g + 1 := by rw [World.size_alloc, eg]
 have hA2 := (brf (w.alloc (.cells #[.slice fa na ca, .slice pa A.length xa, I O n1, I O d1, .bool v1] 140)).heap.size (w.alloc (.cells #[.slice fa na ca, .slice pa A.length xa, I O n1, I O d1, .bool v1] 140))).alloc mle (.cells #[.slice fb nb cb, .slice pb B.length xb, I O n2, I O d2, .bool v2] 140); have HB0 := mh (hA1.trans (hA2.mono hA1.size)); have GB := mh (hs1 ▸ Blk.new (w.alloc (.cells #[.slice fa na ca, .slice pa A.length xa, I O n1, I O d1, .bool v1] 140)) #[.slice fb nb cb, .slice pb B.length xb, I O n2, I O d2, .bool v2] 140); have GA := mh ((eg ▸ Blk.new w #[.slice fa na ca, .slice pa A.length xa, I O n1, I O d1, .bool v1] 140 : Blk (w.alloc (.cells #[.slice fa na ca, .slice pa A.length xa, I O n1, I O d1, .bool v1] 140)) g #[.slice fa na ca, .slice pa A.length xa, I O n1, I O d1, .bool v1] 140).below hA2); clear hA hB hA1 hA2 hs1 lA lB
 go_enter Tryz.func87, Tryz.ntmps87
 go_wp2_with fail
 clear eg; generalize (w.alloc (.cells #[.slice fa na ca, .slice pa A.length xa, I O n1, I O d1, .bool v1] 140)).alloc (.cells #[.slice fb nb cb, .slice pb B.length xb, I O n2, I O d2, .bool v2] 140) = w0 at *; have HBD := mh (HB0.out.trans ((brf w0.heap.size w0).drew.mono HB0.out.size)); have GA1 := mh (GA.out.below (brf w0.heap.size w0).drew); have GB1 := mh (GB.out.below (brf w0.heap.size w0).drew); have KD := mh (show w0.drew.cell? ⟨g, 0, none⟩ = some (.slice fa na ca) ∧ w0.drew.cell? ⟨g, 1, none⟩ = some (.slice pa A.length xa) ∧ w0.drew.cell? ⟨g, 2, none⟩ = some (I O n1) ∧ w0.drew.cell? ⟨g, 3, none⟩ = some (I O d1) ∧ w0.drew.cell? ⟨g, 4, none⟩ = some (.bool v1) ∧ w0.drew.cell? ⟨g + 1, 0, none⟩ = some (.slice fb nb cb) ∧ w0.drew.cell? ⟨g + 1, 1, none⟩ = some (.slice pb B.length xb) ∧ w0.drew.cell? ⟨g + 1, 2, none⟩ = some (I O n2) ∧ w0.drew.cell? ⟨g + 1, 3, none⟩ = some (I O d2) ∧ w0.drew.cell? ⟨g + 1, 4, none⟩ = some (.bool v2) from ⟨GA1.out.cell 0, GA1.out.cell 1, GA1.out.cell 2, GA1.out.cell 3, GA1.out.cell 4, GB1.out.cell 0, GB1.out.cell 1, GB1.out.cell 2, GB1.out.cell 3, GB1.out.cell 4⟩); unfold Re.MvG
 by_cases en : n1 = n2
 rotate_left
 ·have hn : (n1 != n2) = true := by simpa using en
  have EN := mh en; clear en
  go_wp2_with fail
  refine wp_region_noPanic ?_
  refine wp_region_held_drew (S := fun w' => w'.cell? ⟨g, 0, none⟩ = some (.slice fa na ca) ∧ w'.cell? ⟨g, 1, none⟩ = some (.slice pa A.length xa) ∧ w'.cell? ⟨g, 2, none⟩ = some (I O n1) ∧ w'.cell? ⟨g, 3, none⟩ = some (I O d1) ∧ w'.cell? ⟨g, 4, none⟩ = some (.bool v1) ∧ w'.cell? ⟨g + 1, 0, none⟩ = some (.slice fb nb cb) ∧ w'.cell? ⟨g + 1, 1, none⟩ = some (.slice pb B.length xb) ∧ w'.cell? ⟨g + 1, 2, none⟩ = some (I O n2) ∧ w'.cell? ⟨g + 1, 3, none⟩ = some (I O d2) ∧ w'.cell? ⟨g + 1, 4, none⟩ = some (.bool v2)) (by kernel_rfl) KD.out (fun hHeld => ?_)
  refine tkA 0 7 ?_
  simp only [Act.put, mnA, mnB, mnC]; refine tkD 1 8 ?_; refine tkD 2 9 ?_; refine tkD 3 10 ?_; refine tkD 4 11 ?_; refine tkD 5 12 ?_; refine tkE 6 13 ?_; refine tkE 7 14 ?_; refine tkE 8 15 ?_; refine tkE 9 16 ?_; refine tkE 10 17 ?_; refine tkD 11 18 ?_; refine tkD 12 19 ?_; refine tkE 13 20 ?_; refine tkE 14 21 ?_; refine tkE 15 22 ?_; refine tkE 16 23 ?_; refine tkE 17 24 ?_; refine tkE 18 25 ?_; refine tkE 19 26 ?_; refine tkE 20 27 ?_; refine tkE 21 28 ?_; refine tkE 22 29 ?_; refine tkE 23 30 ?_; refine tkE 24 31 ?_; refine tkE 25 32 ?_; refine tkE 26 33 ?_; refine tkE 27 34 ?_; refine tkE 28 35 ?_; refine tkD 29 36 ?_; refine tkD 30 6 ?_; refine wpAnyH_done (by kernel_rfl) ?_ _; refine NoPanic.normal ?_
  go_wp2_with fail
  go_ret
  exact ⟨true, rfl, by simp [EN.out], HBD.out⟩
 subst en; have hn : (n1 != n1) = false := by simp
 by_cases ed : d1 = d2
 rotate_left
 ·have hd : (d1 != d2) = true := by simpa using ed
  have ED := mh ed; clear ed
  go_wp2_with fail
  refine wp_region_noPanic ?_
  refine wp_region_held_drew (S := fun w' => w'.cell? ⟨g, 0, none⟩ = some (.slice fa na ca) ∧ w'.cell? ⟨g, 1, none⟩ = some (.slice pa A.length xa) ∧ w'.cell? ⟨g, 2, none⟩ = some (I O n1) ∧ w'.cell? ⟨g, 3, none⟩ = some (I O d1) ∧ w'.cell? ⟨g, 4, none⟩ = some (.bool v1) ∧ w'.cell? ⟨g + 1, 0, none⟩ = some (.slice fb nb cb) ∧ w'.cell? ⟨g + 1, 1, none⟩ = some (.slice pb B.length xb) ∧ w'.cell? ⟨g + 1, 2, none⟩ = some (I O n1) ∧ w'.cell? ⟨g + 1, 3, none⟩ = some (I O d2) ∧ w'.cell? ⟨g + 1, 4, none⟩ = some (.bool v2)) (by kernel_rfl) KD.out (fun hHeld => ?_)
  refine tkA 0 7 ?_
  simp only [Act.put, mnA, mnB, mnC]; refine tkD 1 8 ?_; refine tkD 2 9 ?_; refine tkD 3 10 ?_; refine tkD 4 11 ?_; refine tkD 5 12 ?_; refine tkD 6 13 ?_; refine tkD 7 14 ?_; refine tkD 8 15 ?_; refine tkD 9 16 ?_; refine tkD 10 17 ?_; refine tkD 11 18 ?_; refine tkD 12 19 ?_; refine tkE 13 20 ?_; refine tkE 14 21 ?_; refine tkE 15 22 ?_; refine tkE 16 23 ?_; refine tkE 17 24 ?_; refine tkE 18 25 ?_; refine tkE 19 26 ?_; refine tkE 20 27 ?_; refine tkE 21 28 ?_; refine tkE 22 29 ?_; refine tkE 23 30 ?_; refine tkE 24 31 ?_; refine tkE 25 32 ?_; refine tkE 26 33 ?_; refine tkE 27 34 ?_; refine tkE 28 35 ?_; refine tkD 29 36 ?_; refine tkD 30 6 ?_; refine wpAnyH_done (by kernel_rfl) ?_ _; refine NoPanic.normal ?_
  go_wp2_with fail
  go_ret
  exact ⟨true, rfl, by simp [ED.out], HBD.out⟩
 subst ed; have hd : (d1 != d1) = false := by simp
 cases v1
 ·cases v2
  ·go_wp2_with fail
   refine wp_region_noPanic ?_
   refine wp_region_held_drew (S := fun w' => w'.cell? ⟨g, 0, none⟩ = some (.slice fa na ca) ∧ w'.cell? ⟨g, 1, none⟩ = some (.slice pa A.length xa) ∧ w'.cell? ⟨g, 2, none⟩ = some (I O n1) ∧ w'.cell? ⟨g, 3, none⟩ = some (I O d1) ∧ w'.cell? ⟨g, 4, none⟩ = some (.bool false) ∧ w'.cell? ⟨g + 1, 0, none⟩ = some (.slice fb nb cb) ∧ w'.cell? ⟨g + 1, 1, none⟩ = some (.slice pb B.length xb) ∧ w'.cell? ⟨g + 1, 2, none⟩ = some (I O n1) ∧ w'.cell? ⟨g + 1, 3, none⟩ = some (I O d1) ∧ w'.cell? ⟨g + 1, 4, none⟩ = some (.bool false)) (by kernel_rfl) KD.out (fun hHeld => ?_)
   refine tkA 0 7 ?_
   simp only [Act.put, mnA, mnB, mnC]; refine tkD 1 8 ?_; refine tkD 2 9 ?_; refine tkD 3 10 ?_; refine tkD 4 11 ?_; refine tkD 5 12 ?_; refine tkD 6 13 ?_; refine tkD 7 14 ?_; refine tkD 8 15 ?_; refine tkD 9 16 ?_; refine tkD 10 17 ?_; refine tkD 11 18 ?_; refine tkD 12 19 ?_; refine tkD 13 20 ?_; refine tkD 14 21 ?_; refine tkD 15 22 ?_; refine tkD 16 23 ?_; refine tkD 17 24 ?_; refine tkD 18 25 ?_; refine tkD 19 26 ?_; refine tkE 20 27 ?_; refine tkE 21 28 ?_; refine tkE 22 29 ?_; refine tkE 23 30 ?_; refine tkE 24 31 ?_; refine tkE 25 32 ?_; refine tkE 26 33 ?_; refine tkE 27 34 ?_; refine tkD 28 35 ?_; refine tkD 29 36 ?_; refine tkD 30 6 ?_; refine wpAnyH_done (by kernel_rfl) ?_ _; refine NoPanic.normal ?_
   go_wp2_with fail
   go_ret
   exact ⟨false, rfl, by simp, HBD.out⟩
  ·go_wp2_with fail
   refine wp_region_noPanic ?_
   refine wp_region_held_drew (S := fun w' => w'.cell? ⟨g, 0, none⟩ = some (.slice fa na ca) ∧ w'.cell? ⟨g, 1, none⟩ = some (.slice pa A.length xa) ∧ w'.cell? ⟨g, 2, none⟩ = some (I O n1) ∧ w'.cell? ⟨g, 3, none⟩ = some (I O d1) ∧ w'.cell? ⟨g, 4, none⟩ = some (.bool false) ∧ w'.cell? ⟨g + 1, 0, none⟩ = some (.slice fb nb cb) ∧ w'.cell? ⟨g + 1, 1, none⟩ = some (.slice pb B.length xb) ∧ w'.cell? ⟨g + 1, 2, none⟩ = some (I O n1) ∧ w'.cell? ⟨g + 1, 3, none⟩ = some (I O d1) ∧ w'.cell? ⟨g + 1, 4, none⟩ = some (.bool true)) (by kernel_rfl) KD.out (fun hHeld => ?_)
   refine tkA 0 7 ?_
   simp only [Act.put, mnA, mnB, mnC]; refine tkD 1 8 ?_; refine tkD 2 9 ?_; refine tkD 3 10 ?_; refine tkD 4 11 ?_; refine tkD 5 12 ?_; refine tkD 6 13 ?_; refine tkD 7 14 ?_; refine tkD 8 15 ?_; refine tkD 9 16 ?_; refine tkD 10 17 ?_; refine tkD 11 18 ?_; refine tkD 12 19 ?_; refine tkD 13 20 ?_; refine tkD 14 21 ?_; refine tkD 15 22 ?_; refine tkD 16 23 ?_; refine tkD 17 24 ?_; refine tkD 18 25 ?_; refine tkD 19 26 ?_; refine tkD 20 27 ?_; refine tkD 21 28 ?_; refine tkD 23 30 ?_; refine tkD 24 31 ?_; refine rdA 22 29 (fun K0 hK => ?_); go_simp; (with_reducible refine cmo (OA.out _ HBD.out) ?_); rintro e w2 ⟨p2, c2, rfl, hr2, hb2⟩; have HB2 := mh (HBD.out.trans (hb2.mono HBD.out.size)); have R2 := mh hr2; have GA2 := mh (GA1.out.below hb2); have GB2 := mh (GB1.out.below hb2); have K2 := mh (show w2.cell? ⟨g, 0, none⟩ = some (.slice fa na ca) ∧ w2.cell? ⟨g, 1, none⟩ = some (.slice pa A.length xa) ∧ w2.cell? ⟨g, 2, none⟩ = some (I O n1) ∧ w2.cell? ⟨g, 3, none⟩ = some (I O d1) ∧ w2.cell? ⟨g, 4, none⟩ = some (.bool false) ∧ w2.cell? ⟨g + 1, 0, none⟩ = some (.slice fb nb cb) ∧ w2.cell? ⟨g + 1, 1, none⟩ = some (.slice pb B.length xb) ∧ w2.cell? ⟨g + 1, 2, none⟩ = some (I O n1) ∧ w2.cell? ⟨g + 1, 3, none⟩ = some (I O d1) ∧ w2.cell? ⟨g + 1, 4, none⟩ = some (.bool true) from ⟨GA2.out.cell 0, GA2.out.cell 1, GA2.out.cell 2, GA2.out.cell 3, GA2.out.cell 4, GB2.out.cell 0, GB2.out.cell 1, GB2.out.cell 2, GB2.out.cell 3, GB2.out.cell 4⟩); clear hr2 hb2
   go_wp2_with fail
   refine hK.out _ _ K2.out (fun hHeld => ?_)
   clear hK K0
   (try dsimp only [Act.put])
   try simp only [mnA, mnB, mnC]
   refine rdA 25 32 (fun K0 hK => ?_)
   go_simp
   (with_reducible refine cmo (OB.out _ HB2.out) ?_); rintro e w3 ⟨p3, c3, rfl, hr3, hb3⟩; have HB3 := mh (HB2.out.trans (hb3.mono HB2.out.size)); have R3 := mh hr3; have R2b := mh (R2.out.below hb3); have GA3 := mh (GA2.out.below hb3); have GB3 := mh (GB2.out.below hb3); have K3 := mh ((kd hb3 <| kd hb3 <| kc hb3 <| k1 hb3) K2.out); clear hr3 hb3
   go_wp2_with fail
   refine hK.out _ _ K3.out (fun hHeld => ?_)
   clear hK K0
   (try dsimp only [Act.put])
   try simp only [mnA, mnB, mnC]
   refine rdA 26 33 (fun K0 hK => ?_)
   go_simp
   (with_reducible refine cmo (eqawds_any p2 p3 (Re.others A farm) (Re.others B farm) c2 c3 _ R2b.out R3.out) ?_); rintro e w4 ⟨eq, rfl, heq, hb4⟩; have HB4 := mh (HB3.out.trans (hb4.mono HB3.out.size)); have HQ := mh heq; have GA4 := mh (GA3.out.below hb4); have GB4 := mh (GB3.out.below hb4); have K4 := mh ((kd hb4 <| kd hb4 <| kc hb4 <| k1 hb4) K3.out); clear heq hb4
   go_wp2_with fail
   refine hK.out _ _ K4.out (fun hHeld => ?_)
   clear hK K0
   (try dsimp only [Act.put])
   try simp only [mnA, mnB, mnC]
   refine tkA 27 34 ?_
   simp only [Act.put, mnA, mnB, mnC]; refine tkD 28 35 ?_; refine tkD 29 36 ?_; refine tkD 30 6 ?_; refine wpAnyH_done (by kernel_rfl) ?_ _; refine NoPanic.normal ?_
   cases eq
   ·go_wp2_with fail
    go_ret
    exact ⟨true, rfl, by simpa using (fun h => by simpa using HQ.out.2 h), HB4.out⟩
   ·go_wp2_with fail
    go_ret
    exact ⟨false, rfl, by have h : Re.others A farm = Re.others B farm := by simpa using HQ.out
                          simpa using h, HB4.out⟩
 ·go_wp2_with fail
  refine wp_region_noPanic ?_
  refine wp_region_held_drew (S := fun w' => w'.cell? ⟨g, 0, none⟩ = some (.slice fa na ca) ∧ w'.cell? ⟨g, 1, none⟩ = some (.slice pa A.length xa) ∧ w'.cell? ⟨g, 2, none⟩ = some (I O n1) ∧ w'.cell? ⟨g, 3, none⟩ = some (I O d1) ∧ w'.cell? ⟨g, 4, none⟩ = some (.bool true) ∧ w'.cell? ⟨g + 1, 0, none⟩ = some (.slice fb nb cb) ∧ w'.cell? ⟨g + 1, 1, none⟩ = some (.slice pb B.length xb) ∧ w'.cell? ⟨g + 1, 2, none⟩ = some (I O n1) ∧ w'.cell? ⟨g + 1, 3, none⟩ = some (I O d1) ∧ w'.cell? ⟨g + 1, 4, none⟩ = some (.bool v2)) (by kernel_rfl) KD.out (fun hHeld => ?_)
  refine tkA 0 7 ?_
  simp only [Act.put, mnA, mnB, mnC]; refine tkD 1 8 ?_; refine tkD 2 9 ?_; refine tkD 3 10 ?_; refine tkD 4 11 ?_; refine tkD 5 12 ?_; refine tkD 6 13 ?_; refine tkD 7 14 ?_; refine tkD 8 15 ?_; refine tkD 9 16 ?_; refine tkD 10 17 ?_; refine tkD 11 18 ?_; refine tkD 12 19 ?_; refine tkD 13 20 ?_; refine tkD 14 21 ?_; refine tkD 15 22 ?_; refine tkE 16 23 ?_; refine tkE 17 24 ?_; refine tkD 18 25 ?_; refine tkD 19 26 ?_; refine tkD 20 27 ?_; refine tkD 21 28 ?_; refine tkD 23 30 ?_; refine tkD 24 31 ?_; refine rdA 22 29 (fun K0 hK => ?_); go_simp; (with_reducible refine cmo (OA.out _ HBD.out) ?_); rintro e w2 ⟨p2, c2, rfl, hr2, hb2⟩; have HB2 := mh (HBD.out.trans (hb2.mono HBD.out.size)); have R2 := mh hr2; have GA2 := mh (GA1.out.below hb2); have GB2 := mh (GB1.out.below hb2); have K2 := mh (show w2.cell? ⟨g, 0, none⟩ = some (.slice fa na ca) ∧ w2.cell? ⟨g, 1, none⟩ = some (.slice pa A.length xa) ∧ w2.cell? ⟨g, 2, none⟩ = some (I O n1) ∧ w2.cell? ⟨g, 3, none⟩ = some (I O d1) ∧ w2.cell? ⟨g, 4, none⟩ = some (.bool true) ∧ w2.cell? ⟨g + 1, 0, none⟩ = some (.slice fb nb cb) ∧ w2.cell? ⟨g + 1, 1, none⟩ = some (.slice pb B.length xb) ∧ w2.cell? ⟨g + 1, 2, none⟩ = some (I O n1) ∧ w2.cell? ⟨g + 1, 3, none⟩ = some (I O d1) ∧ w2.cell? ⟨g + 1, 4, none⟩ = some (.bool v2) from ⟨GA2.out.cell 0, GA2.out.cell 1, GA2.out.cell 2, GA2.out.cell 3, GA2.out.cell 4, GB2.out.cell 0, GB2.out.cell 1, GB2.out.cell 2, GB2.out.cell 3, GB2.out.cell 4⟩); clear hr2 hb2
  go_wp2_with fail
  refine hK.out _ _ K2.out (fun hHeld => ?_)
  clear hK K0
  (try dsimp only [Act.put])
  try simp only [mnA, mnB, mnC]
  refine rdA 25 32 (fun K0 hK => ?_)
  go_simp
  (with_reducible refine cmo (OB.out _ HB2.out) ?_); rintro e w3 ⟨p3, c3, rfl, hr3, hb3⟩; have HB3 := mh (HB2.out.trans (hb3.mono HB2.out.size)); have R3 := mh hr3; have R2b := mh (R2.out.below hb3); have GA3 := mh (GA2.out.below hb3); have GB3 := mh (GB2.out.below hb3); have K3 := mh ((kd hb3 <| kd hb3 <| kc hb3 <| k1 hb3) K2.out); clear hr3 hb3
  go_wp2_with fail
  refine hK.out _ _ K3.out (fun hHeld => ?_)
  clear hK K0
  (try dsimp only [Act.put])
  try simp only [mnA, mnB, mnC]
  refine rdA 26 33 (fun K0 hK => ?_)
  go_simp
  (with_reducible refine cmo (eqawds_any p2 p3 (Re.others A farm) (Re.others B farm) c2 c3 _ R2b.out R3.out) ?_); rintro e w4 ⟨eq, rfl, heq, hb4⟩; have HB4 := mh (HB3.out.trans (hb4.mono HB3.out.size)); have HQ := mh heq; have GA4 := mh (GA3.out.below hb4); have GB4 := mh (GB3.out.below hb4); have K4 := mh ((kd hb4 <| kd hb4 <| kc hb4 <| k1 hb4) K3.out); clear heq hb4
  go_wp2_with fail
  refine hK.out _ _ K4.out (fun hHeld => ?_)
  clear hK K0
  (try dsimp only [Act.put])
  try simp only [mnA, mnB, mnC]
  refine tkA 27 34 ?_
  simp only [Act.put, mnA, mnB, mnC]; refine tkD 28 35 ?_; refine tkD 29 36 ?_; refine tkD 30 6 ?_; refine wpAnyH_done (by kernel_rfl) ?_ _; refine NoPanic.normal ?_
  cases eq
  ·go_wp2_with fail
   go_ret
   exact ⟨true, rfl, by simpa using (fun h => by simpa using HQ.out.2 h), HB4.out⟩
  ·go_wp2_with fail
   go_ret
   exact ⟨false, rfl, by have h : Re.others A farm = Re.others B farm := by simpa using HQ.out
                         simpa using h, HB4.out⟩
end Go.Proofs.YtmlfcpglhipjgaaGreat
