/-
  THE WALK over the law CeilingAnswers.
-/
import Derived.Test.YtmgdbbmheiligaaSp
import Derived.Test.YtmgdbbmheiligaaCf
namespace Go.Proofs.Ytmgdbbmheiligaa
open Go.RowKit

/-- What the inner loops read: degrees, some amounts, the amounts that came in. -/
structure Sees (w : World) (p : Option Addr) (D : List (Int × Int)) (p6 : Option Addr) (xs : List Int) (b : Option Addr) (ws : List Int) : Prop where
  deg : Pairs w p D
  some_ : Ints w p6 xs
  arg : Ints w b ws

theorem Sees.below {w w' : World} {p : Option Addr} {D : List (Int × Int)} {p6 : Option Addr} {xs : List Int} {b : Option Addr} {ws : List Int} (h : Sees w p D p6 xs b ws) (hb : Below w.heap.size w w') : Sees w' p D p6 xs b ws :=
  ⟨h.deg.below hb, h.some_.below hb, h.arg.below hb⟩

theorem Own.ints_at' {w : World} {T : TypeId} {B : Nat} {p : Option Addr} {n c : Nat} {xs : List Int} (h : Own w T B (.slice p n c) xs) : Ints w p xs := by
  obtain ⟨p', c', e, hI⟩ := h.ints
  cases e
  exact hI

structure SomeAt (w1 wr : World) (t : Nat) (l : List Int) (v : Value) (xs : List Int) (q : Nat) : Prop where
  own : Own wr 3 (t + 1) v xs
  tape : TapeAt wr t l q
  below : Below t w1 wr

set_option maxRecDepth 100000 in
set_option maxHeartbeats 8000000 in
theorem ceilingAnswers_walk (a : Option Addr) (len cap : Nat) (z : List Int) (pr : Option Addr) (capr : Nat) (Dr : List (Int × Int)) (cap_ amount : Int) (b : Option Addr) (lenb capb : Nat) (zb : List Int) (by_ : Int) (w : World)
    (w0 : IsRow .i64 w a len cap z) (w1 : Pairs w pr Dr) (w2 : (Lit.int .i64 cap_).wf = true) (w3 : (Lit.int .i64 amount).wf = true) (w4 : IsRow .i64 w b lenb capb zb) (w5 : (Lit.int .i64 by_).wf = true) :
    Calls Try.prog 4 #[.slice a len cap, .slice pr Dr.length capr, .int .i64 cap_, .int .i64 amount, .slice b lenb capb, .int .i64 by_] w fun e w' => e = .returned (.bool true) ∧ Below w.heap.size w w' := by
  obtain ⟨x1, x2⟩ := bd_i64 w2
  obtain ⟨y1, y2⟩ := bd_i64 w3
  obtain ⟨z1, z2⟩ := bd_i64 w5
  have hl4 := w4.len
  have hm4 : lenb ≤ 9223372036854775807 := by have := hl4.2; unfold maxLen at this; omega
  have hmr := w1.len
  by_cases hlen : 10 < Dr.length
  · clear w0 w1 w2 w3 w4 w5 hl4
    go_enter Try.func4, Try.ntmps4
    go_wp2_with (first | (go_at_call 33; refine (awake32_any _).mono ?_; rintro e w9 ⟨rfl, hb9⟩))
    go_ret
    exact ⟨rfl, hb9⟩
  by_cases hlen2 : 30 < lenb
  · clear w0 w1 w2 w3 w4 w5 hl4
    go_enter Try.func4, Try.ntmps4
    go_wp2_with (first | (go_at_call 33; refine (awake32_any _).mono ?_; rintro e w9 ⟨rfl, hb9⟩))
    go_ret
    exact ⟨rfl, hb9⟩
  have HN := Lib.hid (new_any a len cap z w w0)
  obtain ⟨i5, e5⟩ := w4.ints
  have I5 := Lib.hid i5
  have E5 := Lib.hid e5
  have PR := Lib.hid w1
  clear w0 w1 w2 w3 w4 w5 hl4 i5 e5
  generalize (z.take len).take 400 = l at *
  generalize hz : zb.take lenb = ws at *
  clear hz
  have HX := Lib.hid (fun (W : World) (h : TapeAt W w.heap.size l 0) => next_any w.heap.size l 0 5 W h (by omega))
  have HY := Lib.hid (fun (W : World) (q : Nat) (h : TapeAt W w.heap.size l q) => next_any w.heap.size l q 4000 W h (by omega))
  obtain ⟨i0, hi, hz0, hz1, hz2⟩ := info_parts info_int
  have HI := Lib.hid (And.intro hi (And.intro hz0 (And.intro hz1 hz2)))
  clear hi hz0 hz1 hz2
  obtain ⟨n0, n1⟩ := gives_bd l 0 (n := 5) (by omega)
  obtain ⟨N, hN⟩ : ∃ N : Nat, gives l 0 5 = (N : Int) := Int.eq_ofNat_of_zero_le n0
  rw [hN] at n1 HX
  clear n0 hN
  go_enter Try.func4, Try.ntmps4
  go_wp2_with (first | (go_at_call 16; refine (HN.out).mono ?_; rintro e w1 ⟨rfl, ht, hb1⟩) | (go_at_call 17; refine (HX.out _ ht).mono ?_; rintro e w2 ⟨rfl, ht2, hb2⟩))
  have htlt := ht2.lt
  have HST := Lib.hid (show SomeAt w w2 w.heap.size l (.slice none 0 0) [] _ from ⟨Own.nil _ _ _, ht2, hb1.trans (hb2.below (Nat.le_refl _) hb1.size)⟩)
  clear ht ht2 hb1 hb2 HN HX
  go_loopw [14, 15] (fun v c wr => ∃ (xs : List Int) (q : Nat), xs.length ≤ N ∧ c = .int .i64 ((N : Int) - xs.length) ∧ SomeAt w wr w.heap.size l v xs q) (fun _ c _ => (intOf c).toNat)
  case atStart => exact ⟨[], _, Nat.zero_le _, by simp, HST.out⟩
  case round =>
    clear HST
    obtain ⟨xs, q, hk, rfl, hS⟩ := hrel
    have H := Lib.hid hS
    have hsz := hS.below.size
    have htl := hS.tape.lt
    clear hS
    by_cases hkN : xs.length < N
    · obtain ⟨g, eg⟩ : ∃ g, gives l q 4000 = g := ⟨_, rfl⟩
      have HY1 := Lib.hid (fun (W : World) (h : TapeAt W w.heap.size l q) => eg ▸ HY.out W q h)
      clear eg HY
      go_wp2_with (first | (go_at_call 17; refine (HY1.out _ H.out.tape).mono ?_; rintro e w5 ⟨rfl, ht5, hb5⟩) | (at_builtin; (refine Own.append HI.out.1 HI.out.2.1 HI.out.2.2.1 HI.out.2.2.2 Try.underlying22 rfl (.tmp 49) (.tmp 52) rfl (w.heap.size + 1) _ _ _ (H.out.own.but hb5) rfl rfl (by have := hb5.size; omega) (by omega) ?_); intro v1 w6 hown6 hb6))
      have HS := Lib.hid (show SomeAt w w6 w.heap.size l v1 (xs ++ [g]) (taken l q) from ⟨hown6, ht5.belowB hb6 (by omega), (H.out.below.trans (hb5.below (Nat.le_refl _) hsz)).trans (hb6.mono (by omega))⟩)
      clear hown6 ht5 hb5 hb6
      go_roundw
      case rel => exact ⟨xs ++ [g], _, by simp; omega, by congr 1; simp; omega, HS.out⟩
      case measure => simp [intOf]; omega
    · obtain ⟨p6, c6, rfl, hI6⟩ := H.out.own.ints
      have O6 := Lib.hid H.out.own
      have hxl : xs.length ≤ 4 := by omega
      have HDG := Lib.hid (degrees2_any w.heap.size l q wr H.out.tape)
      have HSP := Lib.hid (fun (W : World) (q : Nat) (h : TapeAt W w.heap.size l q) => spoilt32_any w.heap.size l q by_ W h z1 z2)
      have hbr := Lib.hid H.out.below
      clear hI6 hk H HY
      go_wp2_with (first | (go_at_call 34; refine (HDG.out).mono ?_; rintro e w2 ⟨p2, c2, D2, q2, rfl, hO2, hR2, hl2, ht2, hb2⟩) | (go_at_call 35; refine (HSP.out _ _ ht2).mono ?_; rintro e w3 ⟨p3, c3, D3, rfl, hP3, hb3⟩))
      have hbb := hb2.trans hb3
      have BEL := Lib.hid (hbr.out.trans (hbb.below (Nat.le_refl _) hsz))
      have hs0 := BEL.out.size
      have ha := (Below.refl w3.heap.size w3).alloc (Nat.le_refl _) (Obj.cells #[.slice p2 D2.length c2, .slice p3 D3.length c3, .slice pr Dr.length capr] 39)
      have q2' := ((hO2.butB htl hb3).pairs_at).below ha
      have q3' := hP3.below ha
      have qr' := (PR.out.below BEL.out).below ha
      have i6 := ((Own.but O6.out hbb).ints_at').below ha
      have i5 := (I5.out.below BEL.out).below ha
      have hms : ∀ k : Nat, k < 3 → ∃ (p : Option Addr) (D : List (Int × Int)) (cc : Nat), (w3.alloc (Obj.cells #[.slice p2 D2.length c2, .slice p3 D3.length c3, .slice pr Dr.length capr] 39)).cell? ⟨w3.heap.size, k, none⟩ = some (.slice p D.length cc) ∧ Sees (w3.alloc (Obj.cells #[.slice p2 D2.length c2, .slice p3 D3.length c3, .slice pr Dr.length capr] 39)) p D p6 xs b ws := fun k hk => by
        have : k = 0 ∨ k = 1 ∨ k = 2 := by omega
        rcases this with rfl | rfl | rfl
        · exact ⟨p2, D2, c2, by go_simp, q2', i6, i5⟩
        · exact ⟨p3, D3, c3, by go_simp, q3', i6, i5⟩
        · exact ⟨pr, Dr, capr, by go_simp, qr', i6, i5⟩
      have HMS := Lib.hid hms
      clear hms q2' q3' qr' i6 i5 ha hbb hb2 hb3 hO2 hR2 ht2 hP3 HDG HSP PR I5 O6 hbr hkN
      go_loopw [62] (fun i wx => ∃ k : Nat, k ≤ 3 ∧ i = .int .i64 k ∧ Below (w3.heap.size + 1) (w3.alloc (Obj.cells #[.slice p2 D2.length c2, .slice p3 D3.length c3, .slice pr Dr.length capr] 39)) wx) (fun i _ => 3 - (intOf i).toNat)
      case atStart => exact ⟨0, by omega, rfl, Below.refl _ _⟩
      case round =>
        obtain ⟨wo, rfl⟩ : ∃ wo : World, wo = wr := ⟨_, rfl⟩
        obtain ⟨k, hk, rfl, hbo⟩ := hrel
        have hszo := hbo.size
        simp only [World.size_alloc] at hszo
        by_cases hlt : k < 3
        · obtain ⟨p, D, cc, c0, hSee⟩ := HMS.out k hlt
          have k1 := (hbo.cell (p := ⟨_, k, none⟩) (by simp)).trans c0
          have S1 := Lib.hid (hSee.below (hbo.mono (by simp)))
          have HBO := Lib.hid hbo
          clear hSee hbo c0 HMS
          go_wp2_with (first | (go_at_call 36; refine (check_any p D cc _ S1.out.deg).mono ?_; rintro e wa ⟨rfl, hba⟩) | (go_at_call 37; refine (refcheck_any p D cc _ (S1.out.deg.below hba)).mono ?_; rintro e wc ⟨rfl, nb, hwb⟩; have HWB := Lib.hid hwb; clear hwb) | (go_at_call 19; refine (mod_any _ _ _ (by omega) (by omega)).mono ?_; rintro e w' ⟨rfl, rfl⟩))
          have hbc : Below wo.heap.size wo wc := bstep (Nat.le_refl _) hba (by rw [HWB.out]; exact drewN_below _ _)
          have BC := Lib.hid hbc
          have hszc := hbc.size
          have SA := Lib.hid ((S1.out.below hbc).below ((Below.refl _ _).alloc (Nat.le_refl _) (Obj.cells #[.int .i64 amount, .int .i64 (mod amount 9000), .int .i64 68719476736] 3)))
          have hns : ∀ j : Nat, j < 3 → ∃ n : Int, (wc.alloc (Obj.cells #[.int .i64 amount, .int .i64 (mod amount 9000), .int .i64 68719476736] 3)).cell? ⟨wc.heap.size, j, none⟩ = some (.int .i64 n) := fun j hj => by
            have : j = 0 ∨ j = 1 ∨ j = 2 := by omega
            rcases this with rfl | rfl | rfl
            · exact ⟨amount, by go_simp⟩
            · exact ⟨mod amount 9000, by go_simp⟩
            · exact ⟨68719476736, by go_simp⟩
          have HNS := Lib.hid hns
          clear hns hba hbc S1 HWB
          go_loopw [76] (fun i wy => ∃ j : Nat, j ≤ 3 ∧ i = .int .i64 j ∧ Below (wc.heap.size + 1) (wc.alloc (Obj.cells #[.int .i64 amount, .int .i64 (mod amount 9000), .int .i64 68719476736] 3)) wy) (fun i _ => 3 - (intOf i).toNat)
          case atStart => exact ⟨0, by omega, rfl, Below.refl _ _⟩
          case round =>
            obtain ⟨wm, rfl⟩ : ∃ wm : World, wm = wr := ⟨_, rfl⟩
            obtain ⟨j, hj, rfl, hbi⟩ := hrel
            have hszi := hbi.size
            simp only [World.size_alloc] at hszi
            have SM := Lib.hid (SA.out.below (hbi.mono (by simp)))
            by_cases hjl : j < 3
            · obtain ⟨en, c0⟩ := HNS.out j hjl
              have k2 := (hbi.cell (p := ⟨_, j, none⟩) (by simp)).trans c0
              have HBI := Lib.hid hbi
              clear hbi c0 HNS
              go_wp2_with (first | (go_at_call 38; refine (Reduced_any p D cc en _ SM.out.deg).mono ?_; rintro e wd ⟨rfl, hbd⟩) | (go_at_call 39; refine (refReduced_any p D cc en _ (SM.out.deg.below hbd)).mono ?_; rintro e we ⟨rfl, ne, rfl⟩))
              have BD := Lib.hid (bstep (Nat.le_refl _) hbd (drewN_below _ ne))
              clear hbd
              go_roundw
              case rel => exact ⟨j + 1, by omega, by go_num, bnext HBI.out hszi BD.out⟩
              case measure => simp [intOf]; omega
            · obtain rfl : j = 3 := by omega
              have HBI := Lib.hid hbi
              have sm := (SM.out.below ((Below.refl _ _).alloc (Nat.le_refl _) (Obj.cells #[.int .i64 cap_, .int .i64 (mod cap_ 6000), .int .i64 68719476736] 3)))
              have SC := Lib.hid sm
              have hcs : ∀ j : Nat, j < 3 → ∃ n : Int, (wm.alloc (Obj.cells #[.int .i64 cap_, .int .i64 (mod cap_ 6000), .int .i64 68719476736] 3)).cell? ⟨wm.heap.size, j, none⟩ = some (.int .i64 n) := fun j hj => by
                have : j = 0 ∨ j = 1 ∨ j = 2 := by omega
                rcases this with rfl | rfl | rfl
                · exact ⟨cap_, by go_simp⟩
                · exact ⟨mod cap_ 6000, by go_simp⟩
                · exact ⟨68719476736, by go_simp⟩
              have HCS := Lib.hid hcs
              clear hbi hjl hj sm hcs HNS SM
              go_wp2_with (first | (go_at_call 19; refine (mod_any _ _ _ (by omega) (by omega)).mono ?_; rintro e w' ⟨rfl, rfl⟩))
              go_loopw [106] (fun i wy => ∃ j : Nat, j ≤ 3 ∧ i = .int .i64 j ∧ Below (wm.heap.size + 1) (wm.alloc (Obj.cells #[.int .i64 cap_, .int .i64 (mod cap_ 6000), .int .i64 68719476736] 3)) wy) (fun i _ => 3 - (intOf i).toNat)
              case atStart => exact ⟨0, by omega, rfl, Below.refl _ _⟩
              case round =>
                obtain ⟨wi, rfl⟩ : ∃ wi : World, wi = wr := ⟨_, rfl⟩
                obtain ⟨m, hm, rfl, hbj⟩ := hrel
                have hszj := hbj.size
                simp only [World.size_alloc] at hszj
                by_cases hml : m < 3
                · have hmI : (m : Int) < 3 := by omega
                  have hmB : decide ((m : Int) < 3) = true := decide_eq_true hmI
                  obtain ⟨cn, c0⟩ := HCS.out m hml
                  have k3 := (hbj.cell (p := ⟨_, m, none⟩) (by simp)).trans c0
                  have si := (SC.out.below (hbj.mono (by simp))).below ((Below.refl _ _).alloc (Nat.le_refl _) (Obj.cells #[.slice p6 xs.length c6, .slice b lenb capb] 22))
                  have hys : ∀ k : Nat, k < 2 → ∃ (q : Option Addr) (zs : List Int) (cz : Nat), (wi.alloc (Obj.cells #[.slice p6 xs.length c6, .slice b lenb capb] 22)).cell? ⟨wi.heap.size, k, none⟩ = some (.slice q zs.length cz) ∧ Ints (wi.alloc (Obj.cells #[.slice p6 xs.length c6, .slice b lenb capb] 22)) q zs := fun k hk => by
                    have : k = 0 ∨ k = 1 := by omega
                    rcases this with rfl | rfl
                    · exact ⟨p6, xs, c6, by go_simp, si.some_⟩
                    · exact ⟨b, ws, capb, by rw [E5.out]; go_simp, si.arg⟩
                  have HYS := Lib.hid hys
                  have PD := Lib.hid si.deg
                  have HBJ := Lib.hid hbj
                  clear hys si hbj c0 HCS
                  go_wp2
                  go_loopw [114] (fun i wy => ∃ j : Nat, j ≤ 2 ∧ i = .int .i64 j ∧ Below (wi.heap.size + 1) (wi.alloc (Obj.cells #[.slice p6 xs.length c6, .slice b lenb capb] 22)) wy) (fun i _ => 2 - (intOf i).toNat)
                  case atStart => exact ⟨0, by omega, rfl, Below.refl _ _⟩
                  case round =>
                    obtain ⟨wj, rfl⟩ : ∃ wj : World, wj = wr := ⟨_, rfl⟩
                    obtain ⟨n, hn, rfl, hbn⟩ := hrel
                    have hszn := hbn.size
                    simp only [World.size_alloc] at hszn
                    by_cases hnl : n < 2
                    · obtain ⟨q, zs, cz, c0, hI⟩ := HYS.out n hnl
                      have k4 := (hbn.cell (p := ⟨_, n, none⟩) (by simp)).trans c0
                      have IZ := Lib.hid (hI.below (hbn.mono (by simp)))
                      have PZ := Lib.hid (PD.out.below (hbn.mono (by simp)))
                      have HBN := Lib.hid hbn
                      clear hI hbn c0 HYS PD
                      go_wp2_with (first | (go_at_call 40; refine (farm_any p D cc cn q zs cz _ PZ.out IZ.out).mono ?_; rintro e wf ⟨pf, cf, rfl, hIf, hbf⟩) | (go_at_call 41; refine (reffarm_any p D cc cn q zs cz _ (PZ.out.below hbf) (IZ.out.below hbf)).mono ?_; rintro e wg ⟨pg, cg, rfl, hIg, hbg⟩; have hint := refints24_any pf pg (Ce.farm D cn zs) (Ce.farm D cn zs) cf cg wg (hIf.below hbg) hIg; rw [decide_eq_true rfl] at hint) | (go_at_call 42; refine (hint).mono ?_; rintro e wh ⟨rfl, nh, rfl⟩))
                      have BH := Lib.hid (bstep (Nat.le_refl _) (bstep (Nat.le_refl _) hbf hbg) (drewN_below wg nh))
                      clear hIf hIg hbf hbg hint
                      go_roundw
                      case rel => exact ⟨n + 1, by omega, by go_num, bnext HBN.out hszn BH.out⟩
                      case measure => simp [intOf]; omega
                    · obtain rfl : n = 2 := by omega
                      have HBN := Lib.hid hbn
                      clear hbn hnl hn
                      go_wp2
                      go_roundw
                      case rel => exact ⟨m + 1, by omega, by go_num, bnext (HBJ.out.alloc hszj _) (by simp; omega) (HBN.out.mono (by simp))⟩
                      case measure => simp [intOf]; omega
                · obtain rfl : m = 3 := by omega
                  have HBJ := Lib.hid hbj
                  clear hbj hml hm
                  go_wp2
                  go_roundw
                  case rel => exact ⟨k + 1, by omega, by go_num, bnext ((bnext ((bnext HBO.out hszo BC.out).alloc (by omega) _) (by simp; omega) (HBI.out.mono (by simp))).alloc (by omega) _) (by simp; omega) (HBJ.out.mono (by simp))⟩
                  case measure => simp [intOf]; omega
        · obtain rfl : k = 3 := by omega
          have HBO := Lib.hid hbo
          clear hbo hlt hk
          go_wp2_with (first | (go_at_call 33; refine (awake32_any _).mono ?_; rintro e wz ⟨rfl, hbz⟩))
          go_ret
          exact ⟨rfl, bnext (bnext (BEL.out.alloc hs0 _) (by simp; omega) (HBO.out.mono (by simp))) (by omega) hbz⟩

end Go.Proofs.Ytmgdbbmheiligaa
