/-
  THE WALK over the law ReductionAnswers.
-/
import Derived.Test.YtmgdbbmheiligaaSq
import Derived.Test.YtmgdbbmheiligaaRf
import Derived.Test.YtmgdbbmheiligaaRg
namespace Go.Proofs.Ytmgdbbmheiligaa
open Go.RowKit

theorem Pairs.drew {w : World} {p : Option Addr} {D : List (Int × Int)} (h : Pairs w p D) : Pairs w.drew p D := h.below ⟨rfl, rfl, rfl, Nat.le_refl _, fun _ _ => rfl⟩

theorem Two.at_ {w : World} {b : Nat} {x y : Int} (h : Two w b x y) : w.cell? ⟨b, 0, none⟩ = some (.int .i64 x) ∧ w.cell? ⟨b, 1, none⟩ = some (.int .i64 y) := ⟨h.c0, h.c1⟩

set_option maxRecDepth 100000 in
set_option maxHeartbeats 8000000 in
theorem reductionAnswers_walk (a : Option Addr) (len cap : Nat) (z : List Int) (pr : Option Addr) (capr : Nat) (Dr : List (Int × Int)) (dc fd by_ : Int) (w : World)
    (w0 : IsRow .i64 w a len cap z) (w1 : Pairs w pr Dr) (w2 : (Lit.int .i64 dc).wf = true) (w3 : (Lit.int .i64 fd).wf = true) (w4 : (Lit.int .i64 by_).wf = true) :
    Calls Try.prog 9 #[.slice a len cap, .slice pr Dr.length capr, .int .i64 dc, .int .i64 fd, .int .i64 by_] w fun e w' => e = .returned (.bool true) ∧ Below w.heap.size w w' := by
  obtain ⟨x1, x2⟩ := bd_i64 w2
  obtain ⟨y1, y2⟩ := bd_i64 w3
  obtain ⟨z1, z2⟩ := bd_i64 w4
  have hmr := w1.len
  by_cases hlen : 10 < Dr.length
  · clear w0 w1 w2 w3 w4
    go_enter Try.func9, Try.ntmps9
    go_wp2_with (first | (go_at_call 43; refine (awake29_any _).mono ?_; rintro e w9 ⟨rfl, hb9⟩))
    go_ret
    exact ⟨rfl, hb9⟩
  have HN := Lib.hid (new_any a len cap z w w0)
  have PR := Lib.hid w1
  clear w0 w1 w2 w3 w4
  generalize (z.take len).take 400 = l at *
  obtain ⟨A, eA⟩ : ∃ g, gives l 0 300 = g := ⟨_, rfl⟩
  obtain ⟨a0, a1⟩ := gives_bd l 0 (n := 300) (by omega)
  rw [eA] at a0 a1
  obtain ⟨B, eB⟩ : ∃ g, gives l (taken l 0) (A + 20) = g := ⟨_, rfl⟩
  obtain ⟨m0, m1⟩ := mod_bd by_ (n := 14) (by omega)
  have HX := Lib.hid (fun (W : World) (h : TapeAt W w.heap.size l 0) => eA ▸ next_any w.heap.size l 0 300 W h (by omega))
  have HY := Lib.hid (fun (W : World) (h : TapeAt W w.heap.size l (taken l 0)) => eB ▸ next_any w.heap.size l (taken l 0) (A + 20) W h (by omega))
  have HDG := Lib.hid (fun (W : World) (q : Nat) (h : TapeAt W w.heap.size l q) => steps_any w.heap.size l q W h)
  have HSP := Lib.hid (fun (W : World) (q : Nat) (b : Int) (h : TapeAt W w.heap.size l q) (b0 : -9223372036854775808 ≤ b) (b1 : b ≤ 9223372036854775807) => spoilt29_any w.heap.size l q b W h b0 b1)
  clear eA eB
  go_enter Try.func9, Try.ntmps9
  go_wp2_with (first | (go_at_call 16; refine (HN.out).mono ?_; rintro e w1 ⟨rfl, ht, hb1⟩) | (go_at_call 17; first | (with_reducible refine Calls.mono (HX.out _ ht) ?_; rintro e w2 ⟨rfl, ht2, hb2⟩) | (with_reducible refine Calls.mono (HY.out _ ht2) ?_; rintro e w3 ⟨rfl, ht3, hb3⟩)) | (go_at_call 44; refine Calls.mono (HDG.out _ _ ht3) ?_; rintro e w4 ⟨p2, c2, D2, q4, rfl, hO2, hR2, ht4, hb4⟩) | (go_at_call 19; refine (mod_any _ _ _ (by omega) (by omega)).mono ?_; rintro e w' ⟨rfl, rfl⟩) | (go_at_call 45; first | ((with_reducible refine Calls.mono (HSP.out _ _ by_ ht4 z1 z2) ?_); rintro e w5 ⟨p3, c3, D3, q5, rfl, hO3, ht5, hb5⟩) | ((with_reducible refine Calls.mono (HSP.out _ _ (mod by_ 14 - 2) ht5 (by omega) (by omega)) ?_); rintro e w6 ⟨p4, c4, D4, q6, rfl, hO4, ht6, hb6⟩)))
  have htl3 := ht3.lt
  have htl4 := ht4.lt
  have htl5 := ht5.lt
  have BEL := Lib.hid (hb1.trans ((((hb2.trans hb3).trans (hb4.trans hb5)).trans hb6).below (Nat.le_refl _) hb1.size))
  have hs0 := BEL.out.size
  have ha := (Below.refl w6.heap.size w6).alloc (Nat.le_refl _) (Obj.cells #[.slice p2 D2.length c2, .slice p3 D3.length c3, .slice p4 D4.length c4, .slice pr Dr.length capr] 52)
  have q2 := ((hO2.butB htl3 (hb5.trans hb6)).pairs_at2).below ha
  have q3 := ((hO3.butB htl4 hb6).pairs_at2).below ha
  have q4' := hO4.pairs_at2.below ha
  have qr := (PR.out.below BEL.out).below ha
  have hms : ∀ k : Nat, k < 4 → ∃ (p : Option Addr) (D : List (Int × Int)) (cc : Nat), (w6.alloc (Obj.cells #[.slice p2 D2.length c2, .slice p3 D3.length c3, .slice p4 D4.length c4, .slice pr Dr.length capr] 52)).cell? ⟨w6.heap.size, k, none⟩ = some (.slice p D.length cc) ∧ Pairs (w6.alloc (Obj.cells #[.slice p2 D2.length c2, .slice p3 D3.length c3, .slice p4 D4.length c4, .slice pr Dr.length capr] 52)) p D := fun k hk => by
    have : k = 0 ∨ k = 1 ∨ k = 2 ∨ k = 3 := by omega
    rcases this with rfl | rfl | rfl | rfl
    · exact ⟨p2, D2, c2, by go_simp, q2⟩
    · exact ⟨p3, D3, c3, by go_simp, q3⟩
    · exact ⟨p4, D4, c4, by go_simp, q4'⟩
    · exact ⟨pr, Dr, capr, by go_simp, qr⟩
  have HMS := Lib.hid hms
  clear hms q2 q3 q4' qr ha hb1 hb2 hb3 hb4 hb5 hb6 hO2 hO3 hO4 hR2 ht ht2 ht3 ht4 ht5 ht6 HN HX HY HDG HSP PR htl3 htl4 htl5 m0 m1
  go_loopw [47] (fun i wx => ∃ k : Nat, k ≤ 4 ∧ i = .int .i64 k ∧ Below (w6.heap.size + 1) (w6.alloc (Obj.cells #[.slice p2 D2.length c2, .slice p3 D3.length c3, .slice p4 D4.length c4, .slice pr Dr.length capr] 52)) wx) (fun i _ => 4 - (intOf i).toNat)
  case atStart => exact ⟨0, by omega, rfl, Below.refl _ _⟩
  case round =>
    obtain ⟨wo, rfl⟩ : ∃ wo : World, wo = wr := ⟨_, rfl⟩
    obtain ⟨k, hk, rfl, hbo⟩ := hrel
    have hszo := hbo.size
    simp only [World.size_alloc] at hszo
    by_cases hlt : k < 4
    · obtain ⟨p, D, cc, c0, hP⟩ := HMS.out k hlt
      have k1 := (hbo.cell (p := ⟨_, k, none⟩) (by simp)).trans c0
      have S1 := Lib.hid (hP.below (hbo.mono (by simp)))
      have HBO := Lib.hid hbo
      clear hP hbo c0 HMS
      go_wp2_with (first | (go_at_call 46; refine (rcheck_any p D cc _ S1.out).mono ?_; rintro e wa ⟨rfl, hba⟩) | (go_at_call 47; refine (refrcheck_any p D cc _ (S1.out.below hba)).mono ?_; rintro e wc ⟨rfl, nb, hwb⟩; have HWB := Lib.hid hwb; clear hwb) | (go_at_call 19; refine (mod_any _ _ _ (by omega) (by omega)).mono ?_; rintro e w' ⟨rfl, rfl⟩))
      have hbc : Below wo.heap.size wo wc := bstep (Nat.le_refl _) hba (by rw [HWB.out]; exact drewN_below _ _)
      have BC := Lib.hid hbc
      have hszc := hbc.size
      have SA := Lib.hid ((S1.out.below hbc).below ((Below.refl _ _).alloc (Nat.le_refl _) (Obj.cells #[.int .i64 A, .int .i64 B, .int .i64 dc, .int .i64 fd, .int .i64 A, .int .i64 fd, .int .i64 268435456, .int .i64 B, .int .i64 (mod dc 268435456), .int .i64 (mod fd 268435456)] 57)))
      have hns : ∀ j : Nat, j < 5 → ∃ x y : Int, (wc.alloc (Obj.cells #[.int .i64 A, .int .i64 B, .int .i64 dc, .int .i64 fd, .int .i64 A, .int .i64 fd, .int .i64 268435456, .int .i64 B, .int .i64 (mod dc 268435456), .int .i64 (mod fd 268435456)] 57)).cell? ⟨wc.heap.size, j * 2, none⟩ = some (.int .i64 x) ∧ (wc.alloc (Obj.cells #[.int .i64 A, .int .i64 B, .int .i64 dc, .int .i64 fd, .int .i64 A, .int .i64 fd, .int .i64 268435456, .int .i64 B, .int .i64 (mod dc 268435456), .int .i64 (mod fd 268435456)] 57)).cell? ⟨wc.heap.size, j * 2 + 1, none⟩ = some (.int .i64 y) := fun j hj => by
        have : j = 0 ∨ j = 1 ∨ j = 2 ∨ j = 3 ∨ j = 4 := by omega
        rcases this with rfl | rfl | rfl | rfl | rfl
        · exact ⟨A, B, by go_simp, by go_simp⟩
        · exact ⟨dc, fd, by go_simp, by go_simp⟩
        · exact ⟨A, fd, by go_simp, by go_simp⟩
        · exact ⟨268435456, B, by go_simp, by go_simp⟩
        · exact ⟨mod dc 268435456, mod fd 268435456, by go_simp, by go_simp⟩
      have HNS := Lib.hid hns
      clear hns hba hbc S1 HWB
      go_loopw [74] (fun i wy => ∃ j : Nat, j ≤ 5 ∧ i = .int .i64 j ∧ Below (wc.heap.size + 1) (wc.alloc (Obj.cells #[.int .i64 A, .int .i64 B, .int .i64 dc, .int .i64 fd, .int .i64 A, .int .i64 fd, .int .i64 268435456, .int .i64 B, .int .i64 (mod dc 268435456), .int .i64 (mod fd 268435456)] 57)) wy) (fun i _ => 5 - (intOf i).toNat)
      case atStart => exact ⟨0, by omega, rfl, Below.refl _ _⟩
      case round =>
        obtain ⟨wm, rfl⟩ : ∃ wm : World, wm = wr := ⟨_, rfl⟩
        obtain ⟨j, hj, rfl, hbi⟩ := hrel
        have hszi := hbi.size
        simp only [World.size_alloc] at hszi
        by_cases hjl : j < 5
        · obtain ⟨x, y, c0, c1⟩ := HNS.out j hjl
          have k2 := (hbi.cell (p := ⟨_, j * 2, none⟩) (by simp)).trans c0
          have k3 := (hbi.cell (p := ⟨_, j * 2 + 1, none⟩) (by simp)).trans c1
          have HBI := Lib.hid hbi
          have SM := Lib.hid ((SA.out.below (hbi.mono (by simp))).below ((Below.refl _ _).alloc (Nat.le_refl _) (Obj.cells #[.int .i64 x, .int .i64 y] 57)))
          have H6 := Lib.hid (show Two (wm.alloc (Obj.cells #[.int .i64 x, .int .i64 y] 57)) wm.heap.size x y from ⟨by simp, by go_simp, by go_simp, by go_simp, by go_simp⟩)
          clear hbi c0 c1 HNS
          go_wp2_with (first | (go_at_call 48; refine (paid_any p D cc x y _ SM.out).mono ?_; rintro e wd ⟨rfl, hbd⟩; have H7 := Lib.hid (H6.out.below hbd H6.out.lt); obtain ⟨g1, g2⟩ := H7.out.at_) | (go_at_call 49; refine (refpaid_any p D cc x y _ (SM.out.below hbd)).mono ?_; rintro e we ⟨rfl, ne, rfl⟩))
          have S7 := Lib.hid ((SM.out.below hbd).below (drewN_below _ ne))
          go_region_held3 (fun w' => w'.cell? ⟨wm.heap.size, 0, none⟩ = some (.int .i64 x) ∧ w'.cell? ⟨wm.heap.size, 1, none⟩ = some (.int .i64 y)) (first | exact ⟨g1, g2⟩ | exact ⟨i1, i2⟩ | go_keep)
            (first | (go_at_call 50; refine (Rstep_any p D cc x y _ S7.out.drew).mono ?_; rintro e wf ⟨rfl, hbf0⟩; have hbf := bdrew hbf0; have H8 := Lib.hid ((H7.out.below (drewN_below _ ne) H7.out.lt).below hbf H7.out.lt); obtain ⟨i1, i2⟩ := H8.out.at_) | (go_at_call 51; refine (refRstep_any p D cc x y _ (S7.out.below hbf)).mono ?_; rintro e wg ⟨rfl, ng, rfl⟩))
          go_wp2
          go_roundw
          case rel => exact ⟨j + 1, by omega, by go_num, bnext (HBI.out.alloc hszi _) (by simp; omega) (bstep (Nat.le_refl _) (bstep (Nat.le_refl _) (bstep (Nat.le_refl _) hbd (drewN_below _ ne)) hbf) (drewN_below _ ng))⟩
          case measure => simp [intOf]; omega
        · obtain rfl : j = 5 := by omega
          have HBI := Lib.hid hbi
          clear hbi hjl hj HNS
          go_wp2
          go_roundw
          case rel => exact ⟨k + 1, by omega, by go_num, bnext ((bnext HBO.out hszo BC.out).alloc (by omega) _) (by simp; omega) (HBI.out.mono (by simp))⟩
          case measure => simp [intOf]; omega
    · obtain rfl : k = 4 := by omega
      have HBO := Lib.hid hbo
      clear hbo hlt hk
      go_wp2_with (first | (go_at_call 43; refine (awake29_any _).mono ?_; rintro e wz ⟨rfl, hbz⟩))
      go_ret
      exact ⟨rfl, bnext (bnext (BEL.out.alloc hs0 _) (by simp; omega) (HBO.out.mono (by simp))) (by omega) hbz⟩

end Go.Proofs.Ytmgdbbmheiligaa
