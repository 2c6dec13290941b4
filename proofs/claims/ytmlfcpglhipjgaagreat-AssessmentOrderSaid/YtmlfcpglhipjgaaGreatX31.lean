/-
  PACKED (pack8.py): what is needed of the texts Fo.
-/
import Derived.Test.YtmlfcpglhipjgaaGreatX0
import Derived.Test.YtmlfcpglhipjgaaGreatX1
import Derived.Test.YtmlfcpglhipjgaaGreatX2
import Derived.Test.YtmlfcpglhipjgaaGreatX4
import Derived.Test.YtmlfcpglhipjgaaGreatX6
import Derived.Test.YtmlfcpglhipjgaaGreatX7
import Derived.Test.YtmlfcpglhipjgaaGreatX9
import Derived.Test.YtmlfcpglhipjgaaGreatX13
import Derived.Test.YtmlfcpglhipjgaaGreatX15
import Derived.Test.YtmlfcpglhipjgaaGreatX17
import Derived.Test.YtmlfcpglhipjgaaGreatX19
import Derived.Test.YtmlfcpglhipjgaaGreatX24
import Derived.Test.YtmlfcpglhipjgaaGreatX26
import Derived.Test.YtmlfcpglhipjgaaGreatX29
import Derived.Test.YtmlfcpglhipjgaaGreatX30
set_option maxRecDepth 100000
set_option maxHeartbeats 8000000
namespace Go.Proofs.YtmlfcpglhipjgaaGreat.Sc
end Go.Proofs.YtmlfcpglhipjgaaGreat.Sc
namespace Go.Proofs.YtmlfcpglhipjgaaGreat.As
end Go.Proofs.YtmlfcpglhipjgaaGreat.As
namespace Go.Proofs.YtmlfcpglhipjgaaGreat
open Go.RowKit Sc As
def As.revTo (F : List FarmF) (k : Nat) : List FarmF := (F.take k).map rev ++ F.drop k
theorem As.revTo_len (F : List FarmF) (k : Nat) : (revTo F k).length = F.length := by unfold revTo; rw [lap, List.length_map, ← lap, List.take_append_drop]
theorem As.revTo_at {F : List FarmF} {k : Nat} (hk : k < F.length) (h : k < (revTo F k).length) : (revTo F k)[k] = F[k] := by
 have e : (revTo F k)[k]? = F[k]? := by
  unfold revTo; rw [List.getElem?_append_right (by rw [List.length_map, List.length_take]; omega), List.length_map, List.length_take, List.getElem?_drop]
  congr 1
  omega
 rw [List.getElem?_eq_getElem h, List.getElem?_eq_getElem hk] at e; exact Option.some.inj e
theorem As.revTo_succ {F : List FarmF} {k : Nat} (hk : k < F.length) : (revTo F k).set k (rev F[k]) = revTo F (k + 1) := by
 unfold revTo; rw [List.set_append_right _ _ (by rw [List.length_map, List.length_take]; omega), List.length_map, List.length_take, Nat.min_eq_left (by omega), Nat.sub_self, tsg hk, List.map_append, List.append_assoc, List.drop_eq_getElem_cons hk]
 rfl
theorem assessmentOrder_walk (a : Option Addr) (len cap : Nat) (z : List Int) (w : World) (w0 : IsRow .i64 w a len cap z) :
  Calls Tryz.prog 6 #[.slice a len cap] w fun e w' => e = .returned (.bool true) ∧ Below w.heap.size w w' := by
 obtain ⟨hIr, hLr⟩ := w0.ints; have NW := mh (new_any a len cap z w w0); obtain ⟨l, el⟩ : ∃ l, (z.take len).take 400 = l := ⟨_, rfl⟩; rw [el] at NW; clear el hIr hLr w0
 go_enter Tryz.func6, Tryz.ntmps6
 go_wp2_with fail
 (with_reducible refine cmo NW.out ?_); rintro e w1 ⟨rfl, ht1, hb1⟩; have LW := mh (law2_any w.heap.size l 0 w1 ht1); have HT1 := mh ht1.lt; have HB1 := mh hb1; clear NW ht1 hb1
 go_wp2_with fail
 (with_reducible refine cmo LW.out ?_); rintro e w2 ⟨d, r, Y, q, rfl, hy, hok, hlen, hdue, hsm, hp⟩; have O2 := mh (Opn.init (T := 29) HB1.out HT1.out hy hok hlen hdue hsm hp rfl); clear hy hok hlen hdue hsm hp LW; obtain ⟨sp, sn, sc, tp, tn, tc, ldue, llast, lmille, gp, gn, gc, cp, ev, un, wd⟩ := r; simp only [yCells] at O2 ⊢; obtain ⟨g, eg⟩ : ∃ g, w2.heap.size = g := ⟨_, rfl⟩; rw [eg] at O2; have FM := mh (O2.out.farms 3 (by omega)); simp only [yCells] at FM
 go_wp2_with fail
 clear eg; generalize w2.alloc (.cells #[.slice sp sn sc, .slice tp tn tc, .int .i64 ldue, .int .i64 llast, .int .i64 lmille, .slice gp gn gc, .int .i64 cp, .int .i64 ev, .int .i64 un, .int .i64 wd] 29) = w3 at *; (with_reducible refine cmo FM.out ?_); rintro e w4 ⟨p, F, capF, q4, rfl, hcF, hO4, hF4, -⟩; have O4 := mh hO4; have F4 := mh hF4; have HCF := mh hcF; clear hcF; clear FM hO4 hF4 O2; have LF := mh F4.out.len; have CP := mh (copy2_any p F capF w4 F4.out.at_ (by have := LF.out; omega) fun f hf => ⟨by have := (F4.out.fm f hf).len; omega, fun x hx => by have h1 := ((F4.out.fm f hf).ok.line x hx).len; have h2 := O4.out.len; omega⟩)
 go_wp2_with fail
 (with_reducible refine cmo CP.out ?_); rintro e w5 ⟨v5, R, rfl, hS, hb5⟩; obtain ⟨nF, enF⟩ : ∃ n, F.length = n := ⟨_, rfl⟩; have NF := mh enF; have hnF3 : nF ≤ 3 := by have := LF.out; omega
 obtain ⟨pb, cb, rfl, -, -, -, -, -⟩ := hS.own.cut (n := nF) (by rw [hS.hl, enF]); have S5 := mh (hS.map (V2 := FVs LV) fun _ _ _ _ h => h.map fun _ _ _ _ h => h.1); have B5 := mh hb5; clear hS hb5 CP enF
 go_wp2_with fail
 go_loopw [25] (fun iv W => ∃ k, k ≤ nF ∧ iv = .int .i64 (k : Nat) ∧ Below w4.heap.size w4 W ∧ SepR SF (FVs LV) 47 w4.heap.size (NewQ w4.heap.size) W (.slice pb nF cb) R (As.revTo F k)) (fun iv _ => nF - (intOf iv).toNat)
 case atStart => exact ⟨0, Nat.zero_le _, rfl, B5.out, by unfold As.revTo; rw [List.take_zero, List.drop_zero, List.map_nil, List.nil_append]; exact S5.out⟩
 case round =>
  clear S5 B5; obtain ⟨wo, rfl⟩ : ∃ wo : World, wo = wr := ⟨_, rfl⟩; obtain ⟨k, hk, rfl, hb, hS⟩ := hrel; have HS := mh hS; have HB := mh hb; have hk0 : (0 : Int) ≤ (k : Int) := inn _
  by_cases hlt : k < nF
  ·have hk1 : (k : Int) < (nF : Int) := by omega
   have HKF := mh (show k < F.length by rw [NF.out]; exact hlt); have HKR := mh (show k < R.length by rw [hS.hl, As.revTo_len]; exact HKF.out); have HKG := mh (show k < (As.revTo F k).length by rw [As.revTo_len]; exact HKF.out); obtain ⟨go, ep, -, -, -, hcl, -, -⟩ := hS.own.at HKR.out; subst ep; have x2 := hcl 2 _ rfl
   have LN := mh (show (R[k]'HKR.out).ln = (F[k]'HKF.out).lines.length from by
    obtain ⟨φ, h1, -, -⟩ := hS.upd (FVs.chgs LV.chgs) HKR.out HKG.out; have := h1.fv.ln; rw [As.revTo_at HKF.out] at this
    exact this)
   have LM := mh (show (F[k]'HKF.out).lines.length ≤ 3 from (F4.out.fm _ (List.getElem_mem HKF.out)).len)
   have S0 := mh (show SepR SF (FVs LV) 47 w4.heap.size (NewQ w4.heap.size) wo (.slice (some ⟨go, 0, none⟩) nF cb) R ((As.revTo F k).set k { F[k]'HKF.out with lines := swapN (F[k]'HKF.out).lines 0 }) from by
    have : (As.revTo F k).set k { F[k]'HKF.out with lines := swapN (F[k]'HKF.out).lines 0 } = As.revTo F k := by
     have h := As.revTo_at HKF.out HKG.out
     conv => rhs; rw [← List.set_getElem_self HKG.out]
     rw [h]; rfl
    rw [this]; exact hS)
   obtain ⟨⟨rf, rd, lp, n, lc⟩, er⟩ : ∃ r, R[k]'HKR.out = r := ⟨_, rfl⟩; have ER := mh er; have hLN := LN.out; have hLM := LM.out; rw [er] at x2 hLN; simp only [SF] at x2; simp only at hLN; have HN := mh hLN; have hn3 : n ≤ 3 := by omega
   clear hS hb hcl er hLN hLM
   go_wp2_with fail
   have hq : (n : Int) / 2 = ((n / 2 : Nat) : Int) := by omega
   obtain ⟨m2, em2⟩ : ∃ m, n / 2 = m := ⟨_, rfl⟩; have EM2 := mh em2; rw [em2] at hq; clear em2
   go_loopw [9] (fun jv W => ∃ j, j ≤ m2 ∧ jv = .int .i64 (j : Nat) ∧ Below w4.heap.size w4 W ∧ SepR SF (FVs LV) 47 w4.heap.size (NewQ w4.heap.size) W (.slice (some ⟨go, 0, none⟩) nF cb) R ((As.revTo F k).set k { F[k]'HKF.out with lines := swapN (F[k]'HKF.out).lines j })) (fun jv _ => m2 - (intOf jv).toNat)
   case atStart => exact ⟨0, Nat.zero_le _, rfl, HB.out, S0.out⟩
   case round =>
    clear S0; obtain ⟨wi, rfl⟩ : ∃ wi : World, wi = wr := ⟨_, rfl⟩; obtain ⟨j, hj, rfl, hb2, hS2⟩ := hrel; have HB2 := mh hb2; have HS2 := mh hS2; have hj0 : (0 : Int) ≤ (j : Int) := inn _
    by_cases hlt2 : j < m2
    ·have hj1 : (j : Int) < (m2 : Int) := by omega
     have HJ := mh (show j + 1 ≤ m2 from hlt2); have hn2 := EM2.out; obtain ⟨e, ee⟩ : ∃ e, n - 1 - j = e := ⟨_, rfl⟩; have hje : j ≠ e := by omega
     have hjn : j < n := by omega
     have hen : e < n := by omega
     have hjnI : (j : Int) < (n : Int) := by omega
     have henI : (e : Int) < (n : Int) := by omega
     have he0 : (0 : Int) ≤ (e : Int) := inn _; have hwa : IntKind.i64.wrap ((n : Int) - 1) = (n : Int) - 1 := by rw [IntKind.wrap_i64]; omega
     have hwb : IntKind.i64.wrap ((n : Int) - 1 - (j : Int)) = (e : Int) := by rw [IntKind.wrap_i64]; omega
     have EE := mh ee; have HKG2 := mh (show k < ((As.revTo F k).set k { F[k]'HKF.out with lines := swapN (F[k]'HKF.out).lines j }).length by rw [List.length_set]; exact HKG.out); have GE := mh (show ((As.revTo F k).set k { F[k]'HKF.out with lines := swapN (F[k]'HKF.out).lines j })[k]'HKG2.out = { F[k]'HKF.out with lines := swapN (F[k]'HKF.out).lines j } from List.getElem_set_self _); have SD := mh (hS2.change (FVs.chgs LV.chgs) (w' := wi.drew) (Q' := NewQ w4.heap.size) mle fun b q _ => ⟨rfl, q⟩); obtain ⟨gl, ri, rj, eg, hgQ, -, hfz, hci, hcj, hfy, hcy, hSW⟩ := SD.out.swapLine HKR.out HKG2.out (i := j) (j := e) (by rw [GE.out]; show j < (swapN _ _).length; rw [swapN_len, ← HN.out]; exact hjn) (by rw [GE.out]; show e < (swapN _ _).length; rw [swapN_len, ← HN.out]; exact hen) hje
     have SN := mh (show SepR SF (FVs LV) 47 w4.heap.size (NewQ w4.heap.size) (put7 (put7 wi.drew gl (j * 7) rj) gl (e * 7) ri) (.slice (some ⟨go, 0, none⟩) nF cb) R ((As.revTo F k).set k { F[k]'HKF.out with lines := swapN (F[k]'HKF.out).lines (j + 1) }) from by
      rw [GE.out, List.set_set] at hSW; have e1 : swapN (F[k]'HKF.out).lines (j + 1) = swp (swapN (F[k]'HKF.out).lines j) j e := by rw [← EE.out, HN.out]; rfl
      rw [e1]; exact hSW)
     have BF := mh (show Below w4.heap.size w4 (put7 (put7 wi.drew gl (j * 7) rj) gl (e * 7) ri) from put7_low (put7_low HB2.out.drew hgQ _ _) hgQ _ _); have FZ := mh hfz; have FC := mh hcy; have FY := mh hfy; rw [ER.out] at eg; simp only at eg; subst eg
     have KD := mh (show wi.drew.cell? ⟨go, k * 3 + 2, none⟩ = some (.slice (some ⟨gl, 0, none⟩) n lc) ∧ wi.drew.cell? ⟨gl, j * 7, none⟩ = some (.int .i64 ri.decl) ∧ wi.drew.cell? ⟨gl, j * 7 + 1, none⟩ = some (.int .i64 ri.sch) ∧ wi.drew.cell? ⟨gl, j * 7 + 2, none⟩ = some (.slice ri.dp ri.dn ri.dc) ∧ wi.drew.cell? ⟨gl, j * 7 + 3, none⟩ = some (.int .i64 ri.season) ∧ wi.drew.cell? ⟨gl, j * 7 + 4, none⟩ = some (.int .i64 ri.kind) ∧ wi.drew.cell? ⟨gl, j * 7 + 5, none⟩ = some (.int .i64 ri.area) ∧ wi.drew.cell? ⟨gl, j * 7 + 6, none⟩ = some (.int .i64 ri.border) ∧ wi.drew.cell? ⟨gl, e * 7, none⟩ = some (.int .i64 rj.decl) ∧ wi.drew.cell? ⟨gl, e * 7 + 1, none⟩ = some (.int .i64 rj.sch) ∧ wi.drew.cell? ⟨gl, e * 7 + 2, none⟩ = some (.slice rj.dp rj.dn rj.dc) ∧ wi.drew.cell? ⟨gl, e * 7 + 3, none⟩ = some (.int .i64 rj.season) ∧ wi.drew.cell? ⟨gl, e * 7 + 4, none⟩ = some (.int .i64 rj.kind) ∧ wi.drew.cell? ⟨gl, e * 7 + 5, none⟩ = some (.int .i64 rj.area) ∧ wi.drew.cell? ⟨gl, e * 7 + 6, none⟩ = some (.int .i64 rj.border) from ⟨by
      obtain ⟨g', e', -, -, -, hc, -, -⟩ := SD.out.own.at HKR.out
      cases e'
      have := hc 2 _ rfl; rw [ER.out] at this
      exact this, hci 0 _ rfl, hci 1 _ rfl, hci 2 _ rfl, hci 3 _ rfl, hci 4 _ rfl, hci 5 _ rfl, hci 6 _ rfl, hcj 0 _ rfl, hcj 1 _ rfl, hcj 2 _ rfl, hcj 3 _ rfl, hcj 4 _ rfl, hcj 5 _ rfl, hcj 6 _ rfl⟩)
     clear hS2 hSW hfz hci hcj hfy hcy ee SD
     go_wp2_with fail
     refine wp_region_held_drew (S := fun _ => True) (by kernel_rfl) trivial (fun _ => ?_)
     generalize wi.drew = wd_ at *; refine tkC 6 46 (fun _ _ _ h => h) ?_; simp only [Act.put, mnA, mnB, mnC]; refine tkC 7 47 (fun _ _ _ h => h) ?_; simp only [Act.put, mnA, mnB, mnC]; refine tkC 8 48 (fun _ _ _ h => h) ?_; simp only [Act.put, mnA, mnB, mnC]; refine tkC 11 51 (fun _ _ _ h => h) ?_; simp only [Act.put, mnA, mnB, mnC]; refine tkC 13 53 (fun _ _ _ h => h) ?_; simp only [Act.put, mnA, mnB, mnC]; refine tkC 12 52 (fun _ _ _ h => h) ?_; simp only [Act.put, mnA, mnB, mnC]; refine tkC 14 54 (fun _ _ _ h => h) ?_; simp only [Act.put, mnA, mnB, mnC]; refine tkC 26 66 (fun _ _ _ h => h) ?_; simp only [Act.put, mnA, mnB, mnC]; refine tkC 27 67 (fun _ _ _ h => h) ?_; simp only [Act.put, mnA, mnB, mnC]; refine tkC 28 68 (fun _ _ _ h => h) ?_; simp only [Act.put, mnA, mnB, mnC]; refine tkC 31 71 (fun _ _ _ h => h) ?_; simp only [Act.put, mnA, mnB, mnC]; refine wpAnyH_of_K (fun w' => w'.cell? ⟨go, k * 3 + 2, none⟩ = some (.slice (some ⟨gl, 0, none⟩) n lc) ∧ w'.cell? ⟨gl, j * 7, none⟩ = some (.int .i64 ri.decl) ∧ w'.cell? ⟨gl, j * 7 + 1, none⟩ = some (.int .i64 ri.sch) ∧ w'.cell? ⟨gl, j * 7 + 2, none⟩ = some (.slice ri.dp ri.dn ri.dc) ∧ w'.cell? ⟨gl, j * 7 + 3, none⟩ = some (.int .i64 ri.season) ∧ w'.cell? ⟨gl, j * 7 + 4, none⟩ = some (.int .i64 ri.kind) ∧ w'.cell? ⟨gl, j * 7 + 5, none⟩ = some (.int .i64 ri.area) ∧ w'.cell? ⟨gl, j * 7 + 6, none⟩ = some (.int .i64 ri.border) ∧ w'.cell? ⟨gl, e * 7, none⟩ = some (.int .i64 rj.decl) ∧ w'.cell? ⟨gl, e * 7 + 1, none⟩ = some (.int .i64 rj.sch) ∧ w'.cell? ⟨gl, e * 7 + 2, none⟩ = some (.slice rj.dp rj.dn rj.dc) ∧ w'.cell? ⟨gl, e * 7 + 3, none⟩ = some (.int .i64 rj.season) ∧ w'.cell? ⟨gl, e * 7 + 4, none⟩ = some (.int .i64 rj.kind) ∧ w'.cell? ⟨gl, e * 7 + 5, none⟩ = some (.int .i64 rj.area) ∧ w'.cell? ⟨gl, e * 7 + 6, none⟩ = some (.int .i64 rj.border)) 35 KD.out (fun hHeld => ?_); refine wpAnyK_take 0 (i := 0) (oi := ⟨some 40, _, _, _, _, _⟩) (v := ?vk91_0) rfl (by kernel_rfl) (by kernel_rfl) (by kernel_rfl) (by kernel_rfl) (fun _ _ _ h => h) (Or.inl ⟨by kernel_rfl, ?yk91_0⟩) (by assumption) ?rk91_0
     case yk91_0 =>
      intro W0 hSw
      (try dsimp only at hSw)
      go_simp
      try with_reducible rfl
     simp only [Act.put, mnA, mnB, mnC]; refine wpAnyK_take 1 (i := 1) (oi := ⟨some 41, _, _, _, _, _⟩) (v := ?vk91_1) rfl (by kernel_rfl) (by kernel_rfl) (by kernel_rfl) (by kernel_rfl) (fun _ _ _ h => h) (Or.inl ⟨by kernel_rfl, ?yk91_1⟩) (by assumption) ?rk91_1
     case yk91_1 =>
      intro W0 hSw
      (try dsimp only at hSw)
      go_simp
      try with_reducible rfl
     simp only [Act.put, mnA, mnB, mnC]; refine wpAnyK_take 2 (i := 2) (oi := ⟨some 42, _, _, _, _, _⟩) (v := ?vk91_2) rfl (by kernel_rfl) (by kernel_rfl) (by kernel_rfl) (by kernel_rfl) (fun _ _ _ h => h) (Or.inl ⟨by kernel_rfl, ?yk91_2⟩) (by assumption) ?rk91_2
     case yk91_2 =>
      intro W0 hSw
      (try dsimp only at hSw)
      go_simp
      try with_reducible rfl
     simp only [Act.put, mnA, mnB, mnC]; refine wpAnyK_take 3 (i := 3) (oi := ⟨some 43, _, _, _, _, _⟩) (v := ?vk91_3) rfl (by kernel_rfl) (by kernel_rfl) (by kernel_rfl) (by kernel_rfl) (fun _ _ _ h => h) (Or.inl ⟨by kernel_rfl, ?yk91_3⟩) (by assumption) ?rk91_3
     case yk91_3 =>
      intro W0 hSw
      (try dsimp only at hSw)
      go_simp
      try with_reducible rfl
     simp only [Act.put, mnA, mnB, mnC]; refine wpAnyK_take 4 (i := 4) (oi := ⟨some 44, _, _, _, _, _⟩) (v := ?vk91_4) rfl (by kernel_rfl) (by kernel_rfl) (by kernel_rfl) (by kernel_rfl) (fun _ _ _ h => h) (Or.inl ⟨by kernel_rfl, ?yk91_4⟩) (by assumption) ?rk91_4
     case yk91_4 =>
      intro W0 hSw
      (try dsimp only at hSw)
      go_simp
      try with_reducible rfl
     simp only [Act.put, mnA, mnB, mnC]; refine wpAnyK_take 5 (i := 5) (oi := ⟨some 45, _, _, _, _, _⟩) (v := ?vk91_5) rfl (by kernel_rfl) (by kernel_rfl) (by kernel_rfl) (by kernel_rfl) (fun _ _ _ h => h) (Or.inl ⟨by kernel_rfl, ?yk91_5⟩) (by assumption) ?rk91_5
     case yk91_5 =>
      intro W0 hSw
      (try dsimp only at hSw)
      go_simp
      try with_reducible rfl
     simp only [Act.put, mnA, mnB, mnC]; refine wpAnyK_take 10 (i := 9) (oi := ⟨some 49, _, _, _, _, _⟩) (v := ?vk91_9) rfl (by kernel_rfl) (by kernel_rfl) (by kernel_rfl) (by kernel_rfl) (fun _ _ _ h => h) (Or.inl ⟨by kernel_rfl, ?yk91_9⟩) (by assumption) ?rk91_9
     case yk91_9 =>
      intro W0 hSw
      (try dsimp only at hSw)
      go_simp
      try with_reducible rfl
     simp only [Act.put, mnA, mnB, mnC]; refine wpAnyK_take 10 (i := 10) (oi := ⟨some 50, _, _, _, _, _⟩) (v := ?vk91_10) rfl (by kernel_rfl) (by kernel_rfl) (by kernel_rfl) (by kernel_rfl) (fun _ _ _ h => h) (Or.inl ⟨by kernel_rfl, ?yk91_10⟩) (by assumption) ?rk91_10
     case yk91_10 =>
      intro W0 hSw
      (try dsimp only at hSw)
      go_simp
      try with_reducible rfl
     simp only [Act.put, mnA, mnB, mnC]; refine wpAnyK_take 15 (i := 15) (oi := ⟨some 55, _, _, _, _, _⟩) (v := ?vk91_15) rfl (by kernel_rfl) (by kernel_rfl) (by kernel_rfl) (by kernel_rfl) (fun _ _ _ h => h) (Or.inl ⟨by kernel_rfl, ?yk91_15⟩) (by assumption) ?rk91_15
     case yk91_15 =>
      intro W0 hSw
      (try dsimp only at hSw)
      go_simp
      try with_reducible rfl
     simp only [Act.put, mnA, mnB, mnC]; refine wpAnyK_take 16 (i := 16) (oi := ⟨some 56, _, _, _, _, _⟩) (v := ?vk91_16) rfl (by kernel_rfl) (by kernel_rfl) (by kernel_rfl) (by kernel_rfl) (fun _ _ _ h => h) (Or.inl ⟨by kernel_rfl, ?yk91_16⟩) (by assumption) ?rk91_16
     case yk91_16 =>
      intro W0 hSw
      (try dsimp only at hSw)
      go_simp
      try with_reducible rfl
     simp only [Act.put, mnA, mnB, mnC]; refine wpAnyK_take 17 (i := 17) (oi := ⟨some 57, _, _, _, _, _⟩) (v := ?vk91_17) rfl (by kernel_rfl) (by kernel_rfl) (by kernel_rfl) (by kernel_rfl) (fun _ _ _ h => h) (Or.inl ⟨by kernel_rfl, ?yk91_17⟩) (by assumption) ?rk91_17
     case yk91_17 =>
      intro W0 hSw
      (try dsimp only at hSw)
      go_simp
      try with_reducible rfl
     simp only [Act.put, mnA, mnB, mnC]; refine wpAnyK_take 18 (i := 18) (oi := ⟨some 58, _, _, _, _, _⟩) (v := ?vk91_18) rfl (by kernel_rfl) (by kernel_rfl) (by kernel_rfl) (by kernel_rfl) (fun _ _ _ h => h) (Or.inl ⟨by kernel_rfl, ?yk91_18⟩) (by assumption) ?rk91_18
     case yk91_18 =>
      intro W0 hSw
      (try dsimp only at hSw)
      go_simp
      try with_reducible rfl
     simp only [Act.put, mnA, mnB, mnC]; refine wpAnyK_take 19 (i := 19) (oi := ⟨some 59, _, _, _, _, _⟩) (v := ?vk91_19) rfl (by kernel_rfl) (by kernel_rfl) (by kernel_rfl) (by kernel_rfl) (fun _ _ _ h => h) (Or.inl ⟨by kernel_rfl, ?yk91_19⟩) (by assumption) ?rk91_19
     case yk91_19 =>
      intro W0 hSw
      (try dsimp only at hSw)
      go_simp
      try with_reducible rfl
     simp only [Act.put, mnA, mnB, mnC]; refine wpAnyK_take 20 (i := 20) (oi := ⟨some 60, _, _, _, _, _⟩) (v := ?vk91_20) rfl (by kernel_rfl) (by kernel_rfl) (by kernel_rfl) (by kernel_rfl) (fun _ _ _ h => h) (Or.inl ⟨by kernel_rfl, ?yk91_20⟩) (by assumption) ?rk91_20
     case yk91_20 =>
      intro W0 hSw
      (try dsimp only at hSw)
      go_simp
      try with_reducible rfl
     simp only [Act.put, mnA, mnB, mnC]; refine wpAnyK_take 21 (i := 21) (oi := ⟨some 61, _, _, _, _, _⟩) (v := ?vk91_21) rfl (by kernel_rfl) (by kernel_rfl) (by kernel_rfl) (by kernel_rfl) (fun _ _ _ h => h) (Or.inl ⟨by kernel_rfl, ?yk91_21⟩) (by assumption) ?rk91_21
     case yk91_21 =>
      intro W0 hSw
      (try dsimp only at hSw)
      go_simp
      try with_reducible rfl
     simp only [Act.put, mnA, mnB, mnC]; refine wpAnyK_take 22 (i := 22) (oi := ⟨some 62, _, _, _, _, _⟩) (v := ?vk91_22) rfl (by kernel_rfl) (by kernel_rfl) (by kernel_rfl) (by kernel_rfl) (fun _ _ _ h => h) (Or.inl ⟨by kernel_rfl, ?yk91_22⟩) (by assumption) ?rk91_22
     case yk91_22 =>
      intro W0 hSw
      (try dsimp only at hSw)
      go_simp
      try with_reducible rfl
     simp only [Act.put, mnA, mnB, mnC]; refine wpAnyK_take 23 (i := 23) (oi := ⟨some 63, _, _, _, _, _⟩) (v := ?vk91_23) rfl (by kernel_rfl) (by kernel_rfl) (by kernel_rfl) (by kernel_rfl) (fun _ _ _ h => h) (Or.inl ⟨by kernel_rfl, ?yk91_23⟩) (by assumption) ?rk91_23
     case yk91_23 =>
      intro W0 hSw
      (try dsimp only at hSw)
      go_simp
      try with_reducible rfl
     simp only [Act.put, mnA, mnB, mnC]; refine wpAnyK_take 24 (i := 24) (oi := ⟨some 64, _, _, _, _, _⟩) (v := ?vk91_24) rfl (by kernel_rfl) (by kernel_rfl) (by kernel_rfl) (by kernel_rfl) (fun _ _ _ h => h) (Or.inl ⟨by kernel_rfl, ?yk91_24⟩) (by assumption) ?rk91_24
     case yk91_24 =>
      intro W0 hSw
      (try dsimp only at hSw)
      go_simp
      try with_reducible rfl
     simp only [Act.put, mnA, mnB, mnC]; refine wpAnyK_take 25 (i := 25) (oi := ⟨some 65, _, _, _, _, _⟩) (v := ?vk91_25) rfl (by kernel_rfl) (by kernel_rfl) (by kernel_rfl) (by kernel_rfl) (fun _ _ _ h => h) (Or.inl ⟨by kernel_rfl, ?yk91_25⟩) (by assumption) ?rk91_25
     case yk91_25 =>
      intro W0 hSw
      (try dsimp only at hSw)
      go_simp
      try with_reducible rfl
     simp only [Act.put, mnA, mnB, mnC]; refine wpAnyK_take 30 (i := 29) (oi := ⟨some 69, _, _, _, _, _⟩) (v := ?vk91_29) rfl (by kernel_rfl) (by kernel_rfl) (by kernel_rfl) (by kernel_rfl) (fun _ _ _ h => h) (Or.inl ⟨by kernel_rfl, ?yk91_29⟩) (by assumption) ?rk91_29
     case yk91_29 =>
      intro W0 hSw
      (try dsimp only at hSw)
      go_simp
      try with_reducible rfl
     simp only [Act.put, mnA, mnB, mnC]; refine wpAnyK_take 30 (i := 30) (oi := ⟨some 70, _, _, _, _, _⟩) (v := ?vk91_30) rfl (by kernel_rfl) (by kernel_rfl) (by kernel_rfl) (by kernel_rfl) (fun _ _ _ h => h) (Or.inl ⟨by kernel_rfl, ?yk91_30⟩) (by assumption) ?rk91_30
     case yk91_30 =>
      intro W0 hSw
      (try dsimp only at hSw)
      go_simp
      try with_reducible rfl
     simp only [Act.put, mnA, mnB, mnC]; refine wpAnyK_take 33 (i := 32) (oi := ⟨some 72, _, _, _, _, _⟩) (v := ?vk91_32) rfl (by kernel_rfl) (by kernel_rfl) (by kernel_rfl) (by kernel_rfl) (fun _ _ _ h => h) (Or.inl ⟨by kernel_rfl, ?yk91_32⟩) (by assumption) ?rk91_32
     case yk91_32 =>
      intro W0 hSw
      (try dsimp only at hSw)
      go_simp
      try with_reducible rfl
     simp only [Act.put, mnA, mnB, mnC]; refine wpAnyK_take 33 (i := 33) (oi := ⟨some 73, _, _, _, _, _⟩) (v := ?vk91_33) rfl (by kernel_rfl) (by kernel_rfl) (by kernel_rfl) (by kernel_rfl) (fun _ _ _ h => h) (Or.inl ⟨by kernel_rfl, ?yk91_33⟩) (by assumption) ?rk91_33
     case yk91_33 =>
      intro W0 hSw
      (try dsimp only at hSw)
      go_simp
      try with_reducible rfl
     simp only [Act.put, mnA, mnB, mnC]; refine wpAnyK_take 34 (i := 34) (oi := ⟨some 74, _, _, _, _, _⟩) (v := ?vk91_34) rfl (by kernel_rfl) (by kernel_rfl) (by kernel_rfl) (by kernel_rfl) (fun _ _ _ h => h) (Or.inl ⟨by kernel_rfl, ?yk91_34⟩) (by assumption) ?rk91_34
     case yk91_34 =>
      intro W0 hSw
      (try dsimp only at hSw)
      go_simp
      try with_reducible rfl
     simp only [Act.put, mnA, mnB, mnC]; have c0 := KD.out.2.1; have c1 := KD.out.2.2.1; have c2 := KD.out.2.2.2.1; have c3 := KD.out.2.2.2.2.1; have c4 := KD.out.2.2.2.2.2.1; have c5 := KD.out.2.2.2.2.2.2.1; have c6 := KD.out.2.2.2.2.2.2.2.1; have f0 := FZ.out (j * 7); have f1 := FZ.out (j * 7 + 1); have f2 := FZ.out (j * 7 + 2); have f3 := FZ.out (j * 7 + 3); have f4 := FZ.out (j * 7 + 4); have f5 := FZ.out (j * 7 + 5); have f6 := FZ.out (j * 7 + 6); refine wpAnyK_last (o := ⟨none, _, _, _, _, _⟩) (by kernel_rfl) rfl (fun K0 hK => ?_); go_simp; refine hK.out _ _ ?_; clear hK K0 c0 c1 c2 c3 c4 c5 c6 f0 f1 f2 f3 f4 f5 f6
     (try dsimp only [Act.put])
     try simp only [mnA, mnB, mnC]
     change wpAnyH _ _ _ _ _ _ _ _ (put7 wd_ gl (j * 7) rj)
     generalize put7 wd_ gl (j * 7) rj = ws at *; refine tkC 36 75 (fun _ _ _ h => h) ?_; simp only [Act.put, mnA, mnB, mnC]; have c0 := FC.out 0 _ rfl; have c1 := FC.out 1 _ rfl; have c2 := FC.out 2 _ rfl; have c3 := FC.out 3 _ rfl; have c4 := FC.out 4 _ rfl; have c5 := FC.out 5 _ rfl; have c6 := FC.out 6 _ rfl; simp only [Nat.add_zero] at c0; have f0 := FY.out (e * 7); have f1 := FY.out (e * 7 + 1); have f2 := FY.out (e * 7 + 2); have f3 := FY.out (e * 7 + 3); have f4 := FY.out (e * 7 + 4); have f5 := FY.out (e * 7 + 5); have f6 := FY.out (e * 7 + 6); refine wpAnyH_ready (rs := [37]) (by kernel_rfl) (by simp) ?_; refine AllReadyH.cons (o := ⟨none, _, _, _, _, _⟩) rfl (fun K0 hK => ?_) AllReadyH.nil; go_simp; refine hK.out _ _ trivial (fun _ => ?_); clear hK K0 c0 c1 c2 c3 c4 c5 c6 f0 f1 f2 f3 f4 f5 f6
     (try dsimp only [Act.put])
     try simp only [mnA, mnB, mnC]
     refine wpAnyH_done (by kernel_rfl) ?_ _
     go_wp2_with fail
     go_roundw
     case rel => exact ⟨j + 1, HJ.out, by go_num, BF.out, SN.out⟩
     case measure => have := HJ.out; simp [intOf]; omega
    ·obtain rfl : j = m2 := by omega
     have SF2 := mh (show SepR SF (FVs LV) 47 w4.heap.size (NewQ w4.heap.size) wi (.slice (some ⟨go, 0, none⟩) nF cb) R (As.revTo F (k + 1)) from by
      have e1 : ({ F[k]'HKF.out with lines := swapN (F[k]'HKF.out).lines j } : FarmF) = rev (F[k]'HKF.out) := by unfold rev; rw [← EM2.out, HN.out, swapN_half]
      rw [e1, As.revTo_succ] at hS2
      exact hS2)
     clear hS2 hb2
     go_wp2_with fail
     go_roundw
     case rel => exact ⟨k + 1, by omega, by go_num, HB2.out, SF2.out⟩
     case measure => simp [intOf]; omega
  ·obtain rfl : k = nF := by omega
   have FB := mh (show FsAt (NewQ w4.heap.size) wo pb (F.map rev) from by
    have h := hS.farms.1; have e1 : As.revTo F k = F.map rev := by unfold As.revTo; rw [← NF.out, List.take_length, List.drop_length, List.append_nil]
    rw [e1] at h; exact h)
   have OO := mh (O4.out.below hb); have AR := As.assess_rev Y F; have AS := mh (assess34_any d _ Y p F capF wo OO.out.yv (F4.out.at_.below hb))
   have AT := mh (fun (W : World) (hw : Below wo.heap.size wo W) => show Calls Tryz.prog 26 #[.agg (yCells ⟨sp, sn, sc, tp, tn, tc, ldue, llast, lmille, gp, gn, gc, cp, ev, un, wd⟩).toArray, .slice pb k cb] W (AsG Y (F.map rev) W) from by
    have h := assess34_any d _ Y pb (F.map rev) cb W (OO.out.yv.below hw) (FB.out.below hw); rw [List.length_map, NF.out] at h
    exact h)
   simp only [yCells] at AS AT; unfold AsG at AS AT; obtain ⟨E, eE⟩ : ∃ E, assErr Y F = E := ⟨_, rfl⟩; obtain ⟨A, eA⟩ : ∃ A, assess Y F = A := ⟨_, rfl⟩; simp only [AR.1, AR.2, eE, eA] at AS AT; clear AR eE eA hS hb; have VB := OO.out.vb; simp only [yCells] at VB; have y0 := VB.cell 0; have y1 := VB.cell 1; have y2 := VB.cell 2; have y3 := VB.cell 3; have y4 := VB.cell 4; have y5 := VB.cell 5; have y6 := VB.cell 6; have y7 := VB.cell 7; have y8 := VB.cell 8; have y9 := VB.cell 9; clear VB
   go_wp2_with fail
   (with_reducible refine cmo AS.out ?_); rintro e w6 ⟨va, rfl, hoa, hb6⟩; obtain ⟨pa, ca, rfl, -, -, -, -, hra⟩ := hoa.cut rfl; have O6 := mh (OO.out.below hb6); have RA := mh hra; have BA := mh hb6; clear hoa hra hb6 y0 y1 y2 y3 y4 y5 y6 y7 y8 y9 AS; have VB := O6.out.vb; simp only [yCells] at VB; have y0 := VB.cell 0; have y1 := VB.cell 1; have y2 := VB.cell 2; have y3 := VB.cell 3; have y4 := VB.cell 4; have y5 := VB.cell 5; have y6 := VB.cell 6; have y7 := VB.cell 7; have y8 := VB.cell 8; have y9 := VB.cell 9; clear VB
   go_wp2_with fail
   (with_reducible refine cmo (AT.out _ BA.out) ?_); rintro e w7 ⟨vb, rfl, hob, hb7⟩; obtain ⟨pc, cc, rfl, -, -, -, -, hrb⟩ := hob.cut rfl; have O7 := mh (O6.out.below hb7); have RA7 := mh (RA.out.below hb7); have RB7 := mh hrb; clear hob hrb hb7 y0 y1 y2 y3 y4 y5 y6 y7 y8 y9 AT
   go_wp2_with (first | (go_at_call 28; (with_reducible refine cmo (refawards34_any pa pc A ca cc _ RA7.out RB7.out) ?_); rintro e w8 ⟨rfl, hb8⟩; have O8 := mh (O7.out.below hb8); clear hb8) | (go_at_call 15; (with_reducible refine cmo (awake34_any _) ?_); rintro e w9 ⟨rfl, hb9⟩; have HB9 := mh (bnext O8.out.low O8.out.low.size hb9); clear hb9) | fail)
   go_ret
   exact ⟨rfl, HB9.out⟩
end Go.Proofs.YtmlfcpglhipjgaaGreat
