/-
  THE WALK over the law ReductionGroups.
-/
import Derived.Test.YtmgdbbmheiligaaSq
import Derived.Test.YtmgdbbmheiligaaRm
import Derived.Test.YtmgdbbmheiligaaRv
namespace Go.Proofs.Ytmgdbbmheiligaa
open Go.RowKit

structure GrAt (w2 wr : World) (t : Nat) (l : List Int) (va vb : Value) (xs ys : List Int) (q : Nat) : Prop where
  len : ys.length = xs.length
  oa : Own wr 3 w2.heap.size va xs
  ob : Own wr 3 w2.heap.size vb ys
  ap : Apart va vb
  tape : TapeAt wr t l q
  but : But t w2 wr

set_option maxRecDepth 100000 in
set_option maxHeartbeats 8000000 in
theorem reductionGroups_walk (a : Option Addr) (len cap : Nat) (z : List Int) (pr : Option Addr) (capr : Nat) (Dr : List (Int × Int)) (qx : Option Addr) (lx cx : Nat) (zx : List Int) (qy : Option Addr) (ly cy : Nat) (zy : List Int) (by_ : Int) (w : World)
    (w0 : IsRow .i64 w a len cap z) (w1 : Pairs w pr Dr) (w2 : IsRow .i64 w qx lx cx zx) (w3 : IsRow .i64 w qy ly cy zy) (w4 : (Lit.int .i64 by_).wf = true) :
    Calls Try.prog 10 #[.slice a len cap, .slice pr Dr.length capr, .slice qx lx cx, .slice qy ly cy, .int .i64 by_] w fun e w' => e = .returned (.bool true) ∧ Below w.heap.size w w' := by
  obtain ⟨z1, z2⟩ := bd_i64 w4
  have hmr := w1.len
  have hmx : lx ≤ 9223372036854775807 := by have := w2.len; unfold maxLen at this; omega
  have hmy : ly ≤ 9223372036854775807 := by have := w3.len; unfold maxLen at this; omega
  by_cases hlen : 10 < Dr.length
  · clear w0 w1 w2 w3 w4
    go_enter Try.func10, Try.ntmps10
    go_wp2_with (first | (go_at_call 43; refine (awake29_any _).mono ?_; rintro e w9 ⟨rfl, hb9⟩))
    go_ret
    exact ⟨rfl, hb9⟩
  by_cases hlen2 : 70 < lx
  · clear w0 w1 w2 w3 w4
    go_enter Try.func10, Try.ntmps10
    go_wp2_with (first | (go_at_call 43; refine (awake29_any _).mono ?_; rintro e w9 ⟨rfl, hb9⟩))
    go_ret
    exact ⟨rfl, hb9⟩
  by_cases hlen3 : 70 < ly
  · clear w0 w1 w2 w3 w4
    go_enter Try.func10, Try.ntmps10
    go_wp2_with (first | (go_at_call 43; refine (awake29_any _).mono ?_; rintro e w9 ⟨rfl, hb9⟩))
    go_ret
    exact ⟨rfl, hb9⟩
  have HN := Lib.hid (new_any a len cap z w w0)
  obtain ⟨ix, ex⟩ := w2.ints
  obtain ⟨iy, ey⟩ := w3.ints
  have IX := Lib.hid ix
  have IY := Lib.hid iy
  have EX := Lib.hid ex
  have EY := Lib.hid ey
  have PR := Lib.hid w1
  clear w0 w1 w2 w3 w4 ix iy ex ey
  generalize (z.take len).take 400 = l at *
  generalize zx.take lx = vx at *
  generalize zy.take ly = vy at *
  obtain ⟨n0, n1⟩ := gives_bd l 0 (n := 6) (by omega)
  obtain ⟨N, eN⟩ : ∃ N : Nat, gives l 0 6 = (N : Int) := Int.eq_ofNat_of_zero_le n0
  have HX := Lib.hid (fun (W : World) (h : TapeAt W w.heap.size l 0) => eN ▸ next_any w.heap.size l 0 6 W h (by omega))
  have HY := Lib.hid (fun (W : World) (q : Nat) (h : TapeAt W w.heap.size l q) => next_any w.heap.size l q 100 W h (by omega))
  have HZ := Lib.hid (fun (W : World) (q : Nat) (h : TapeAt W w.heap.size l q) => range_any w.heap.size l q (-20) 5 W h (by omega) (by omega) (by omega))
  have HDG := Lib.hid (fun (W : World) (q : Nat) (h : TapeAt W w.heap.size l q) => steps_any w.heap.size l q W h)
  have HSP := Lib.hid (fun (W : World) (q : Nat) (h : TapeAt W w.heap.size l q) => spoilt29_any w.heap.size l q by_ W h z1 z2)
  obtain ⟨i0, hi, hz0, hz1, hz2⟩ := info_parts info_int
  have HI := Lib.hid (And.intro hi (And.intro hz0 (And.intro hz1 hz2)))
  rw [eN] at n1
  clear eN n0 hi hz0 hz1 hz2
  have b1 : decide ((10 : Int) < (Dr.length : Int)) = false := decide_eq_false (by omega)
  have b2 : decide ((70 : Int) < (lx : Int)) = false := decide_eq_false (by omega)
  have b3 : decide ((70 : Int) < (ly : Int)) = false := decide_eq_false (by omega)
  go_enter Try.func10, Try.ntmps10
  go_wp2_with (first | (go_at_call 16; refine (HN.out).mono ?_; rintro e w1 ⟨rfl, ht, hb1⟩) | (go_at_call 17; (with_reducible refine Calls.mono (HX.out _ ht) ?_; rintro e w2 ⟨rfl, ht2, hb2⟩)))
  have htl2 := ht2.lt
  have BEL := Lib.hid (hb1.trans (hb2.below (Nat.le_refl _) hb1.size))
  have HST := Lib.hid (show GrAt w2 w2 w.heap.size l (.slice none 0 0) (.slice none 0 0) [] [] _ from ⟨rfl, Own.nil _ _ _, Own.nil _ _ _, .inl rfl, ht2, But.refl _ _⟩)
  clear ht ht2 hb1 hb2 HN HX
  go_loopw [12, 13, 14] (fun va vb i wr => ∃ (xs ys : List Int) (q : Nat), xs.length ≤ N ∧ i = .int .i64 ((N : Int) - xs.length) ∧ GrAt w2 wr w.heap.size l va vb xs ys q) (fun _ _ i _ => (intOf i).toNat)
  case atStart => exact ⟨[], [], _, Nat.zero_le _, by simp, HST.out⟩
  case round =>
    clear HST
    obtain ⟨xs, ys, q, hk, rfl, hS⟩ := hrel
    have H := Lib.hid hS
    have hsz := hS.but.size
    have HYL := Lib.hid hS.len
    clear hS
    by_cases hkN : xs.length < N
    · obtain ⟨d, ed⟩ : ∃ g, gives l q 100 = g := ⟨_, rfl⟩
      obtain ⟨d0, d1⟩ := gives_bd l q (n := 100) (by omega)
      rw [ed] at d0 d1
      obtain ⟨f, ef⟩ : ∃ g, gives l (taken l q) (5 - (-20) + 1) = g := ⟨_, rfl⟩
      obtain ⟨f0, f1⟩ := gives_bd l (taken l q) (n := 5 - (-20) + 1) (by omega)
      rw [ef] at f0 f1
      have N1 := Lib.hid (ed ▸ HY.out wr q H.out.tape)
      have N2 := Lib.hid (fun (W : World) (h : TapeAt W w.heap.size l (taken l q)) => ef ▸ HZ.out W _ h)
      clear ed ef HY HZ
      go_wp2_with (first | (go_at_call 17; (with_reducible refine Calls.mono N1.out ?_; rintro e w5 ⟨rfl, ht5, hb5⟩)) | (go_at_call 18; (with_reducible refine Calls.mono (N2.out _ ht7) ?_; rintro e w8 ⟨rfl, ht8, hb8⟩; have oa8 := hown7.butT htl2 hb8; have ob8 := ob7.butT htl2 hb8)) | (at_builtin; first | (refine Own.append2 HI.out.1 HI.out.2.1 HI.out.2.2.1 HI.out.2.2.2 Try.underlying22 rfl (.tmp 48) (.tmp 50) rfl w2.heap.size _ _ _ (H.out.oa.butT htl2 hb5) rfl rfl (by have := hb5.size; omega) (by omega) ?_; intro v1 w7 hown7 hb7 hsz7 hkeep7 hblk7; have ht7 := ht5.belowB hb7 htl2; have ob6 := (H.out.ob.butT htl2 hb5); have ob7 := hkeep7 _ _ _ _ ob6 H.out.ap.symm.l; have ap7 := H.out.ap.symm.grow ob6 hblk7 (Nat.le_succ _)) | (refine Own.append2 HI.out.1 HI.out.2.1 HI.out.2.2.1 HI.out.2.2.2 Try.underlying22 rfl (.tmp 52) (.tmp 58) rfl w2.heap.size _ _ _ ob8 rfl rfl (by have := hb5.size; have := hb8.size; omega) (by have := HYL.out; omega) ?_; intro v2 w9 hown9 hb9 hsz9 hkeep9 hblk9; have oa9 := hkeep9 _ _ _ _ oa8 ap7.symm.l; have ap9 := ap7.symm.grow oa8 hblk9 (Nat.le_succ _))))
      have HS := Lib.hid (show GrAt w2 w9 w.heap.size l v1 v2 (xs ++ [d]) (ys ++ [max 0 (d + (-20 + f))]) (taken l (taken l q)) from ⟨by have := HYL.out; simp; omega, oa9, hown9, ap9, ht8.belowB hb9 htl2, (((H.out.but.trans hb5).step hb7).trans hb8).step hb9⟩)
      clear ht5 ht7 ht8 hb5 hb7 hb8 hb9 hown7 hown9 hkeep7 hkeep9 hblk7 hblk9 ob6 ob7 ob8 ap7 ap9 oa8 oa9
      go_roundw
      case rel => exact ⟨xs ++ [d], _, _, by simp; omega, by congr 1; simp; omega, HS.out⟩
      case measure => simp [intOf]; omega
    · have hxl : xs.length ≤ 6 := by omega
      obtain ⟨pa, ca, rfl, hA⟩ := H.out.oa.ints
      obtain ⟨pb, cb, rfl, hB⟩ := H.out.ob.ints
      clear hA hB
      have hbr := Lib.hid (BEL.out.trans (H.out.but.below (Nat.le_refl _) BEL.out.size))
      have htl := H.out.tape.lt
      go_wp2_with (first | (go_at_call 44; refine (HDG.out _ _ H.out.tape).mono ?_; rintro e w4 ⟨p2, c2, D2, q2, rfl, hO2, hR2, ht4, hb4⟩) | (go_at_call 45; refine (HSP.out _ _ ht4).mono ?_; rintro e w6 ⟨p3, c3, D3, q3, rfl, hO3, ht6, hb6⟩))
      have hbb := hb4.trans hb6
      have BEL2 := Lib.hid (hbr.out.trans (hbb.below (Nat.le_refl _) hbr.out.size))
      have hs0 := BEL2.out.size
      have ha := (Below.refl w6.heap.size w6).alloc (Nat.le_refl _) (Obj.cells #[.slice p2 D2.length c2, .slice p3 D3.length c3, .slice pr Dr.length capr] 52)
      have q2' := ((hO2.butB htl hb6).pairs_at2).below ha
      have q3' := hO3.pairs_at2.below ha
      have qr := (PR.out.below BEL2.out).below ha
      have A6 := Lib.hid ((show Ints w6 pa xs by obtain ⟨p', c', e, hI⟩ := (H.out.oa.butT htl2 hbb).ints; cases e; exact hI).below ha)
      have B6 := Lib.hid ((show Ints w6 pb ys by obtain ⟨p', c', e, hI⟩ := (H.out.ob.butT htl2 hbb).ints; cases e; exact hI).below ha)
      have X6 := Lib.hid ((IX.out.below BEL2.out).below ha)
      have Y6 := Lib.hid ((IY.out.below BEL2.out).below ha)
      have hms : ∀ k : Nat, k < 3 → ∃ (p : Option Addr) (D : List (Int × Int)) (cc : Nat), (w6.alloc (Obj.cells #[.slice p2 D2.length c2, .slice p3 D3.length c3, .slice pr Dr.length capr] 52)).cell? ⟨w6.heap.size, k, none⟩ = some (.slice p D.length cc) ∧ Pairs (w6.alloc (Obj.cells #[.slice p2 D2.length c2, .slice p3 D3.length c3, .slice pr Dr.length capr] 52)) p D := fun k hk => by
        have : k = 0 ∨ k = 1 ∨ k = 2 := by omega
        rcases this with rfl | rfl | rfl
        · exact ⟨p2, D2, c2, by go_simp, q2'⟩
        · exact ⟨p3, D3, c3, by go_simp, q3'⟩
        · exact ⟨pr, Dr, capr, by go_simp, qr⟩
      have HMS := Lib.hid hms
      have hE1 : lx = vx.length := EX.out.symm
      have hE2 : ly = vy.length := EY.out.symm
      subst hE1 hE2
      clear hms q2' q3' qr ha hbb hb4 hb6 hO2 hO3 hR2 ht4 ht6 HDG HSP PR IX IY EX EY hbr hkN H HY HZ htl hk HYL
      go_loopw [68] (fun i wx => ∃ k : Nat, k ≤ 3 ∧ i = .int .i64 k ∧ Below (w6.heap.size + 1) (w6.alloc (Obj.cells #[.slice p2 D2.length c2, .slice p3 D3.length c3, .slice pr Dr.length capr] 52)) wx) (fun i _ => 3 - (intOf i).toNat)
      case atStart => exact ⟨0, by omega, rfl, Below.refl _ _⟩
      case round =>
        obtain ⟨wo, rfl⟩ : ∃ wo : World, wo = wr := ⟨_, rfl⟩
        obtain ⟨k, hk, rfl, hbo⟩ := hrel
        have hszo := hbo.size
        simp only [World.size_alloc] at hszo
        by_cases hlt : k < 3
        · have hkI : (k : Int) < 3 := by omega
          have hkB : decide ((k : Int) < 3) = true := decide_eq_true hkI
          obtain ⟨p, D, cc, c0, hP⟩ := HMS.out k hlt
          have k1 := (hbo.cell (p := ⟨_, k, none⟩) (by simp)).trans c0
          have hbo' := hbo.mono (show (w6.alloc (Obj.cells #[.slice p2 D2.length c2, .slice p3 D3.length c3, .slice pr Dr.length capr] 52)).heap.size ≤ w6.heap.size + 1 by simp)
          have ha := (Below.refl wo.heap.size wo).alloc (Nat.le_refl _) (Obj.cells #[.slice pa xs.length ca, .slice pb ys.length cb, .slice qx vx.length cx, .slice qy vy.length cy, .slice pa xs.length ca, .slice qy vy.length cy, .slice qx vx.length cx, .slice qx vx.length cx] 62)
          have S1 := Lib.hid ((hP.below hbo').below ha)
          have a7 := (A6.out.below hbo').below ha
          have b7 := (B6.out.below hbo').below ha
          have x7 := (X6.out.below hbo').below ha
          have y7 := (Y6.out.below hbo').below ha
          have HBO := Lib.hid hbo
          have hns : ∀ j : Nat, j < 4 → ∃ (r1 : Option Addr) (u : List Int) (k1 : Nat) (r2 : Option Addr) (v : List Int) (k2 : Nat), (wo.alloc (Obj.cells #[.slice pa xs.length ca, .slice pb ys.length cb, .slice qx vx.length cx, .slice qy vy.length cy, .slice pa xs.length ca, .slice qy vy.length cy, .slice qx vx.length cx, .slice qx vx.length cx] 62)).cell? ⟨wo.heap.size, j * 2, none⟩ = some (.slice r1 u.length k1) ∧ (wo.alloc (Obj.cells #[.slice pa xs.length ca, .slice pb ys.length cb, .slice qx vx.length cx, .slice qy vy.length cy, .slice pa xs.length ca, .slice qy vy.length cy, .slice qx vx.length cx, .slice qx vx.length cx] 62)).cell? ⟨wo.heap.size, j * 2 + 1, none⟩ = some (.slice r2 v.length k2) ∧ Ints (wo.alloc (Obj.cells #[.slice pa xs.length ca, .slice pb ys.length cb, .slice qx vx.length cx, .slice qy vy.length cy, .slice pa xs.length ca, .slice qy vy.length cy, .slice qx vx.length cx, .slice qx vx.length cx] 62)) r1 u ∧ Ints (wo.alloc (Obj.cells #[.slice pa xs.length ca, .slice pb ys.length cb, .slice qx vx.length cx, .slice qy vy.length cy, .slice pa xs.length ca, .slice qy vy.length cy, .slice qx vx.length cx, .slice qx vx.length cx] 62)) r2 v := fun j hj => by
            have : j = 0 ∨ j = 1 ∨ j = 2 ∨ j = 3 := by omega
            rcases this with rfl | rfl | rfl | rfl
            · exact ⟨pa, xs, ca, pb, ys, cb, by go_simp, by go_simp, a7, b7⟩
            · exact ⟨qx, vx, cx, qy, vy, cy, by go_simp, by go_simp, x7, y7⟩
            · exact ⟨pa, xs, ca, qy, vy, cy, by go_simp, by go_simp, a7, y7⟩
            · exact ⟨qx, vx, cx, qx, vx, cx, by go_simp, by go_simp, x7, x7⟩
          have HNS := Lib.hid hns
          clear hP hbo c0 HMS hns a7 b7 x7 y7 ha hbo'
          go_wp2
          go_loopw [86] (fun i wy => ∃ j : Nat, j ≤ 4 ∧ i = .int .i64 j ∧ Below (wo.heap.size + 1) (wo.alloc (Obj.cells #[.slice pa xs.length ca, .slice pb ys.length cb, .slice qx vx.length cx, .slice qy vy.length cy, .slice pa xs.length ca, .slice qy vy.length cy, .slice qx vx.length cx, .slice qx vx.length cx] 62)) wy) (fun i _ => 4 - (intOf i).toNat)
          case atStart => exact ⟨0, by omega, rfl, Below.refl _ _⟩
          case round =>
            obtain ⟨wm, rfl⟩ : ∃ wm : World, wm = wr := ⟨_, rfl⟩
            obtain ⟨j, hj, rfl, hbi⟩ := hrel
            have hszi := hbi.size
            simp only [World.size_alloc] at hszi
            by_cases hjl : j < 4
            · obtain ⟨r1, u, k1', r2, v, k2', c0, c1, hu, hv⟩ := HNS.out j hjl
              have k2 := (hbi.cell (p := ⟨_, j * 2, none⟩) (by simp)).trans c0
              have k3 := (hbi.cell (p := ⟨_, j * 2 + 1, none⟩) (by simp)).trans c1
              have HBI := Lib.hid hbi
              have hbi' := hbi.mono (show (wo.alloc (Obj.cells #[.slice pa xs.length ca, .slice pb ys.length cb, .slice qx vx.length cx, .slice qy vy.length cy, .slice pa xs.length ca, .slice qy vy.length cy, .slice qx vx.length cx, .slice qx vx.length cx] 62)).heap.size ≤ wo.heap.size + 1 by simp)
              have ha := (Below.refl wm.heap.size wm).alloc (Nat.le_refl _) (Obj.cells #[.slice r1 u.length k1', .slice r2 v.length k2'] 62)
              have SM := Lib.hid ((S1.out.below hbi').below ha)
              have UM := Lib.hid ((hu.below hbi').below ha)
              have VM := Lib.hid ((hv.below hbi').below ha)
              obtain ⟨F, eF⟩ : ∃ F, grpVal D u v = F := ⟨_, rfl⟩
              obtain ⟨E, eE⟩ : ∃ E, grpErr D u v = E := ⟨_, rfl⟩
              have C1 := Lib.hid (fun (W : World) (hP : Pairs W p D) (hU : Ints W r1 u) (hV : Ints W r2 v) => eE ▸ eF ▸ rgroup_any p D cc r1 u k1' r2 v k2' W hP hU hV)
              have C2 := Lib.hid (fun (W : World) (hP : Pairs W p D) (hU : Ints W r1 u) (hV : Ints W r2 v) => eE ▸ eF ▸ refgroup_any p D cc r1 u k1' r2 v k2' W hP hU hV)
              clear hbi hbi' ha hu hv c0 c1 HNS eF eE
              go_wp2_with (first | (go_at_call 52; refine Calls.mono (C1.out _ SM.out UM.out VM.out) ?_; rintro e wd ⟨p5, c5, rfl, hI5, hbd⟩; have g1 := (hbd.cell (p := ⟨wm.heap.size, 0, none⟩) (by simp)).trans (show _ = some (Value.slice r1 u.length k1') by go_simp); have g2 := (hbd.cell (p := ⟨wm.heap.size, 1, none⟩) (by simp)).trans (show _ = some (Value.slice r2 v.length k2') by go_simp)) | (go_at_call 53; refine Calls.mono (C2.out _ (SM.out.below hbd) (UM.out.below hbd) (VM.out.below hbd)) ?_; rintro e we ⟨p6, c6, rfl, hI6, hbe⟩; have hint := refints24_any p5 p6 F F c5 c6 we (hI5.below hbe) hI6; rw [decide_eq_true rfl] at hint) | (go_at_call 42; refine (hint).mono ?_; rintro e wf ⟨rfl, nf, rfl⟩))
              have BE := Lib.hid (bstep (Nat.le_refl _) (bstep (Nat.le_refl _) hbd hbe) (drewN_below we nf))
              clear hI5 hI6 hbd hbe hint g1 g2
              go_roundw
              case rel => exact ⟨j + 1, by omega, by go_num, bnext (HBI.out.alloc hszi _) (by simp; omega) BE.out⟩
              case measure => simp [intOf]; omega
            · obtain rfl : j = 4 := by omega
              have HBI := Lib.hid hbi
              clear hbi hjl hj HNS
              go_wp2
              go_roundw
              case rel => exact ⟨k + 1, by omega, by go_num, bnext (HBO.out.alloc hszo _) (by simp; omega) (HBI.out.mono (by simp))⟩
              case measure => simp [intOf]; omega
        · obtain rfl : k = 3 := by omega
          have HBO := Lib.hid hbo
          clear hbo hlt hk
          go_wp2_with (first | (go_at_call 43; refine (awake29_any _).mono ?_; rintro e wz ⟨rfl, hbz⟩))
          go_ret
          exact ⟨rfl, bnext (bnext (BEL2.out.alloc hs0 _) (by simp; omega) (HBO.out.mono (by simp))) (by omega) hbz⟩

end Go.Proofs.Ytmgdbbmheiligaa
