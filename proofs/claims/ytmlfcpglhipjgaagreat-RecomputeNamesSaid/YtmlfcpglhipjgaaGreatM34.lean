/-
  PACKED (pack8.py): what is needed of the texts Xj.
-/
import Derived.Test.YtmlfcpglhipjgaaGreatM33
set_option maxRecDepth 100000
set_option maxHeartbeats 8000000
open Go.Value renaming int → I
open Go.IntKind renaming i64 → O
namespace Go.Proofs.YtmlfcpglhipjgaaGreat
open Go.RowKit Sc As
namespace Re
def line0 : LineF := ⟨0, 0, [], 0, 0, 0, 0⟩
def linesCh (X Y : List LineF) : Nat → List Chg
 | 0 => []
 | k + 1 => linesCh X Y k ++ lineCh (X.getD k line0) (Y.getD k line0) k
def dayCh (x y : FarmF) : List Chg := if x.day = y.day then [] else [⟨1, -1⟩]
def lenCh (x y : FarmF) : List Chg := if x.lines.length = y.lines.length then [] else [⟨7, -1⟩]
def farmCh (x y : FarmF) : List Chg := dayCh x y ++ linesCh x.lines y.lines (min x.lines.length y.lines.length) ++ lenCh x y
theorem linesCh_len (X Y : List LineF) : ∀ k, (linesCh X Y k).length ≤ k * 5
 | 0 => Nat.le_refl _
 | k + 1 => by
   have := linesCh_len X Y k; have h2 := chTake_len (lineB (X.getD k line0) (Y.getD k line0)) k 5; unfold linesCh lineCh; rw [lap]; omega
end Re
theorem changes38_any {Q Q2 : Nat → Prop} (r s : RF) (x y : FarmF) (w : World) (hx : FV Q w r x) (hy : FV Q2 w s y) (lx : x.lines.length ≤ 1000) (_ly : y.lines.length ≤ 1000) :
  Calls Tryz.prog 41 #[.agg (fCells r).toArray, .agg (fCells s).toArray] w (Re.ChG (Re.farmCh x y) w) := by
 obtain ⟨afa, ada, ap, an, ac⟩ := r; obtain ⟨bfa, bda, bp, bn, bc⟩ := s; have e1 := hx.day; have e2 := hx.ln; have e3 := hy.day; have e4 := hy.ln; simp only at e1 e2 e3 e4; subst e1 e2 e3 e4; simp only [fCells]; have HX := mh hx.lines; have HY := mh hy.lines; simp only at HX HY; obtain ⟨g, eg⟩ : ∃ g, w.heap.size = g := ⟨_, rfl⟩; have hA1 := (brf w.heap.size w).alloc mle (.cells #[I O afa, I O x.day, .slice ap x.lines.length ac] 47); have hs1 : (w.alloc (.cells #[I O afa, I O x.day, .slice ap x.lines.length ac] 47)).heap.size = g + 1 := by rw [World.size_alloc, eg]
 have hA2 := (brf (w.alloc (.cells #[I O afa, I O x.day, .slice ap x.lines.length ac] 47)).heap.size (w.alloc (.cells #[I O afa, I O x.day, .slice ap x.lines.length ac] 47))).alloc mle (.cells #[I O bfa, I O y.day, .slice bp y.lines.length bc] 47); have HBW := mh (hA1.trans (hA2.mono hA1.size)); have GB := mh (hs1 ▸ Blk.new (w.alloc (.cells #[I O afa, I O x.day, .slice ap x.lines.length ac] 47)) #[I O bfa, I O y.day, .slice bp y.lines.length bc] 47); have GA := mh ((eg ▸ Blk.new w #[I O afa, I O x.day, .slice ap x.lines.length ac] 47 : Blk (w.alloc (.cells #[I O afa, I O x.day, .slice ap x.lines.length ac] 47)) g #[I O afa, I O x.day, .slice ap x.lines.length ac] 47).below hA2); obtain ⟨n, en⟩ : ∃ n, min x.lines.length y.lines.length = n := ⟨_, rfl⟩; have hmi : min (x.lines.length : Int) (y.lines.length : Int) = (n : Int) := by omega
 have hnx : n ≤ x.lines.length := by omega
 have hny : n ≤ y.lines.length := by omega
 have EN := mh en; clear hx hy hA1 hA2 hs1 en; have DC := mh (show (x.day != y.day) = false → Re.dayCh x y = [] from fun h => by unfold Re.dayCh; rw [if_pos (by simpa using h)]); have DD := mh (show (x.day != y.day) = true → Re.dayCh x y = [⟨1, -1⟩] from fun h => by unfold Re.dayCh; rw [if_neg (by simpa using h)]); obtain ⟨bd, ebd⟩ : ∃ b, (x.day != y.day) = b := ⟨_, rfl⟩; rw [ebd] at DC DD
 go_enter Tryz.func41, Tryz.ntmps41
 go_upto_if 11 with fail
 clear eg ebd; generalize (w.alloc (.cells #[I O afa, I O x.day, .slice ap x.lines.length ac] 47)).alloc (.cells #[I O bfa, I O y.day, .slice bp y.lines.length bc] 47) = wz at *
 go_cut [5] (fun v W => OwnR Re.SCh W 91 wz.heap.size v (Re.dayCh x y) ∧ Below wz.heap.size wz W)
 case first =>
  cases bd
  ·go_wp2_with fail
   go_meet
   exact ⟨by rw [DC.out (by simp)]; exact OwnR.nil _ _ _, brf _ _⟩
  ·go_wp2_with (first | (at_builtin; (refine OwnR.append Re.el_chg rfl (.tmp 12) (.tmp 14) rfl wz.heap.size _ [] ⟨1, -1⟩ #[I O 1, I O (-1)] rfl (OwnR.nil _ _ _) rfl (by simp [Act.eval]) mle (by simp) (by decide) ?_); intro v5 w5 hO5 hap5; have HO0 := mh hO5; have HBZ := mh hap5.below; clear hO5 hap5) | fail)
   go_meet
   exact ⟨by rw [DD.out (by simp)]; exact HO0.out, HBZ.out⟩
 case rest =>
  obtain ⟨hO0, hBZ⟩ := hcut; obtain ⟨w0, rfl⟩ : ∃ W : World, W = wc := ⟨_, rfl⟩; have HO0 := mh (show OwnR Re.SCh w0 91 wz.heap.size _ (Re.dayCh x y) from hO0); have HBW0 := mh hBZ; have p2 := (GA.out.below hBZ).cell 2; have q2 := (GB.out.below hBZ).cell 2; obtain ⟨L0, eL0⟩ : ∃ L, Re.dayCh x y = L := ⟨_, rfl⟩; have HL0 := mh (show L0.length ≤ 1 by rw [← eL0]; unfold Re.dayCh; by_cases h : x.day = y.day <;> simp [h]); have ED := mh eL0; rw [eL0] at HO0; clear eL0 hO0 hBZ
  go_upto_region 5 with fail
  clear p2 q2
  go_loopw [5, 23] (fun v iv W => ∃ k : Nat, k ≤ n ∧ iv = I O k ∧ OwnR Re.SCh W 91 wz.heap.size v (L0 ++ Re.linesCh x.lines y.lines k) ∧ Below wz.heap.size wz W) (fun _ iv _ => n - (intOf iv).toNat)
  case atStart => exact ⟨0, Nat.zero_le _, rfl, by rw [show Re.linesCh x.lines y.lines 0 = [] from rfl, List.append_nil]; exact HO0.out, HBW0.out⟩
  case round =>
   obtain ⟨wo, rfl⟩ : ∃ wo : World, wo = wr := ⟨_, rfl⟩; obtain ⟨k, hk, rfl, hO, hb⟩ := hrel; have HO := mh hO; have HBO := mh hb; have hk0 : (0 : Int) ≤ (k : Int) := inn _
   by_cases hlt : k < n
   ·have hk1 : (k : Int) < (n : Int) := by omega
    have hkx : (k : Int) < (x.lines.length : Int) := by omega
    have hky : (k : Int) < (y.lines.length : Int) := by omega
    have HL := mh (Re.linesCh_len x.lines y.lines k); have hx1 : k < x.lines.length := by omega
    have hy1 : k < y.lines.length := by omega
    obtain ⟨ba, oa, ra, rfl, hla, hca, hva⟩ := HX.out.at hx1; obtain ⟨bb, ob, rb, rfl, hlb, hcb, hvb⟩ := HY.out.at hy1; have bw := HBW.out.trans (hb.mono HBW.out.size); have hca := hca.below bw hla; have hcb := hcb.below bw hlb; have hva := hva.below bw; have hvb := hvb.below bw; have HLA := mh (show ba < wz.heap.size by have := HBW.out.size; omega); have HLB := mh (show bb < wz.heap.size by have := HBW.out.size; omega); have HGA := mh (show g < wz.heap.size from GA.out.lt); have HGB := mh (show g + 1 < wz.heap.size from GB.out.lt); have hla := nll HLA.out hb.size; have hlb := nll HLB.out hb.size; have gX : x.lines.getD k Re.line0 = x.lines[k] := by rw [List.getD_eq_getElem?_getD, List.getElem?_eq_getElem hx1]; rfl
    have gY : y.lines.getD k Re.line0 = y.lines[k] := by rw [List.getD_eq_getElem?_getD, List.getElem?_eq_getElem hy1]; rfl
    have LN := mh (fun (W : World) (hw : Below wo.heap.size wo W) => line38_any ra rb x.lines[k] y.lines[k] k W (hva.below hw) (hvb.below hw)); have ST := mh (show Re.linesCh x.lines y.lines (k + 1) = Re.linesCh x.lines y.lines k ++ Re.lineCh x.lines[k] y.lines[k] k from by rw [← gX, ← gY]; rfl); have LL := mh (show (Re.lineCh x.lines[k] y.lines[k] k).length ≤ 5 from Re.chTake_len _ _ 5); obtain ⟨LC, eLC⟩ : ∃ L, Re.lineCh x.lines[k] y.lines[k] k = L := ⟨_, rfl⟩; rw [eLC] at LN ST LL; have GA1 := mh ((GA.out.below hb).below (brf wo.heap.size wo).drew); have GB1 := mh ((GB.out.below hb).below (brf wo.heap.size wo).drew); have CA1 := mh (hca.below (brf wo.heap.size wo).drew hla); have CB1 := mh (hcb.below (brf wo.heap.size wo).drew hlb); have hl0 := (show wo.drew.heap.size = wo.heap.size from rfl); have HLAo := mh hla; have HLBo := mh hlb; have KD := mh (show wo.drew.cell? ⟨g, 2, none⟩ = some (.slice (some ⟨ba, oa, none⟩) x.lines.length ac) ∧ wo.drew.cell? ⟨g + 1, 2, none⟩ = some (.slice (some ⟨bb, ob, none⟩) y.lines.length bc) ∧ wo.drew.cell? ⟨ba, oa + k * 7, none⟩ = some (I O ra.decl) ∧ wo.drew.cell? ⟨ba, oa + k * 7 + 1, none⟩ = some (I O ra.sch) ∧ wo.drew.cell? ⟨ba, oa + k * 7 + 2, none⟩ = some (.slice ra.dp ra.dn ra.dc) ∧ wo.drew.cell? ⟨ba, oa + k * 7 + 3, none⟩ = some (I O ra.season) ∧ wo.drew.cell? ⟨ba, oa + k * 7 + 4, none⟩ = some (I O ra.kind) ∧ wo.drew.cell? ⟨ba, oa + k * 7 + 5, none⟩ = some (I O ra.area) ∧ wo.drew.cell? ⟨ba, oa + k * 7 + 6, none⟩ = some (I O ra.border) ∧ wo.drew.cell? ⟨bb, ob + k * 7, none⟩ = some (I O rb.decl) ∧ wo.drew.cell? ⟨bb, ob + k * 7 + 1, none⟩ = some (I O rb.sch) ∧ wo.drew.cell? ⟨bb, ob + k * 7 + 2, none⟩ = some (.slice rb.dp rb.dn rb.dc) ∧ wo.drew.cell? ⟨bb, ob + k * 7 + 3, none⟩ = some (I O rb.season) ∧ wo.drew.cell? ⟨bb, ob + k * 7 + 4, none⟩ = some (I O rb.kind) ∧ wo.drew.cell? ⟨bb, ob + k * 7 + 5, none⟩ = some (I O rb.area) ∧ wo.drew.cell? ⟨bb, ob + k * 7 + 6, none⟩ = some (I O rb.border) from ⟨GA1.out.cell 2, GB1.out.cell 2, CA1.out.c0, CA1.out.c1, CA1.out.c2, CA1.out.c3, CA1.out.c4, CA1.out.c5, CA1.out.c6, CB1.out.c0, CB1.out.c1, CB1.out.c2, CB1.out.c3, CB1.out.c4, CB1.out.c5, CB1.out.c6⟩); simp only [lCells] at LN; clear hva hvb gX gY eLC hO hb hca hcb
    go_wp2_with fail
    go_region_held3 (fun w' => w'.cell? ⟨g, 2, none⟩ = some (.slice (some ⟨ba, oa, none⟩) x.lines.length ac) ∧ w'.cell? ⟨g + 1, 2, none⟩ = some (.slice (some ⟨bb, ob, none⟩) y.lines.length bc) ∧ w'.cell? ⟨ba, oa + k * 7, none⟩ = some (I O ra.decl) ∧ w'.cell? ⟨ba, oa + k * 7 + 1, none⟩ = some (I O ra.sch) ∧ w'.cell? ⟨ba, oa + k * 7 + 2, none⟩ = some (.slice ra.dp ra.dn ra.dc) ∧ w'.cell? ⟨ba, oa + k * 7 + 3, none⟩ = some (I O ra.season) ∧ w'.cell? ⟨ba, oa + k * 7 + 4, none⟩ = some (I O ra.kind) ∧ w'.cell? ⟨ba, oa + k * 7 + 5, none⟩ = some (I O ra.area) ∧ w'.cell? ⟨ba, oa + k * 7 + 6, none⟩ = some (I O ra.border) ∧ w'.cell? ⟨bb, ob + k * 7, none⟩ = some (I O rb.decl) ∧ w'.cell? ⟨bb, ob + k * 7 + 1, none⟩ = some (I O rb.sch) ∧ w'.cell? ⟨bb, ob + k * 7 + 2, none⟩ = some (.slice rb.dp rb.dn rb.dc) ∧ w'.cell? ⟨bb, ob + k * 7 + 3, none⟩ = some (I O rb.season) ∧ w'.cell? ⟨bb, ob + k * 7 + 4, none⟩ = some (I O rb.kind) ∧ w'.cell? ⟨bb, ob + k * 7 + 5, none⟩ = some (I O rb.area) ∧ w'.cell? ⟨bb, ob + k * 7 + 6, none⟩ = some (I O rb.border)) (first | with_reducible exact KD.out | with_reducible exact K2.out | with_reducible exact K3.out | go_keep) (first | (go_at_call 80; (with_reducible refine cmo (LN.out wo.drew (brf wo.heap.size wo).drew) ?_); rintro e w5 ⟨v5, rfl, hoc, hb5⟩; obtain ⟨pc, cc, rfl, hz5, -, -, -, hr5⟩ := hoc.cut (n := LC.length) rfl; have HZ5 := mh (fun e => (hz5 e).1); have HR5 := mh hr5; have GA2 := mh (GA1.out.below hb5); have GB2 := mh (GB1.out.below hb5); have CA2 := mh (CA1.out.below hb5 HLAo.out); have CB2 := mh (CB1.out.below hb5 HLBo.out); have HO5 := mh ((HO.out.below (brf wo.heap.size wo).drew).below hb5); have HB5 := mh (HBO.out.trans (((brf wo.heap.size wo).drew.trans hb5).mono HBO.out.size)); have K2 := mh ((kd hb5 <| kd hb5 <| kd hb5 <| kc hb5 <| kc hb5 <| kc hb5 <| k1 hb5) KD.out); clear hoc hz5 hr5 hb5) | (refine OwnR.stepAp Re.el_chg (by rfl) (.tmp 26) (.tmp 38) (by rfl) wz.heap.size _ (L0 ++ Re.linesCh x.lines y.lines k) LC pc cc LC.length rfl HO5.out HR5.out HZ5.out (by rfl) (by rfl) HB5.out.size (by rw [lap]; have := HL0.out; have := HL.out; have := LL.out; omega) (by decide) ?_; intro v6 w6 hO6 hap6; have HO6 := mh hO6; have HB6 := mh (HB5.out.trans hap6.below); have GA3 := mh (show Blk w6 g #[I O afa, I O x.day, .slice (some ⟨ba, oa, none⟩) x.lines.length ac] 47 from (hap6.below.block g HGA.out).trans GA2.out); have GB3 := mh (show Blk w6 (g + 1) #[I O bfa, I O y.day, .slice (some ⟨bb, ob, none⟩) y.lines.length bc] 47 from (hap6.below.block (g + 1) HGB.out).trans GB2.out); have CA3 := mh (CA2.out.blk (hap6.below.block ba HLA.out)); have CB3 := mh (CB2.out.blk (hap6.below.block bb HLB.out)); have K3 := mh (show w6.cell? ⟨g, 2, none⟩ = some (.slice (some ⟨ba, oa, none⟩) x.lines.length ac) ∧ w6.cell? ⟨g + 1, 2, none⟩ = some (.slice (some ⟨bb, ob, none⟩) y.lines.length bc) ∧ w6.cell? ⟨ba, oa + k * 7, none⟩ = some (I O ra.decl) ∧ w6.cell? ⟨ba, oa + k * 7 + 1, none⟩ = some (I O ra.sch) ∧ w6.cell? ⟨ba, oa + k * 7 + 2, none⟩ = some (.slice ra.dp ra.dn ra.dc) ∧ w6.cell? ⟨ba, oa + k * 7 + 3, none⟩ = some (I O ra.season) ∧ w6.cell? ⟨ba, oa + k * 7 + 4, none⟩ = some (I O ra.kind) ∧ w6.cell? ⟨ba, oa + k * 7 + 5, none⟩ = some (I O ra.area) ∧ w6.cell? ⟨ba, oa + k * 7 + 6, none⟩ = some (I O ra.border) ∧ w6.cell? ⟨bb, ob + k * 7, none⟩ = some (I O rb.decl) ∧ w6.cell? ⟨bb, ob + k * 7 + 1, none⟩ = some (I O rb.sch) ∧ w6.cell? ⟨bb, ob + k * 7 + 2, none⟩ = some (.slice rb.dp rb.dn rb.dc) ∧ w6.cell? ⟨bb, ob + k * 7 + 3, none⟩ = some (I O rb.season) ∧ w6.cell? ⟨bb, ob + k * 7 + 4, none⟩ = some (I O rb.kind) ∧ w6.cell? ⟨bb, ob + k * 7 + 5, none⟩ = some (I O rb.area) ∧ w6.cell? ⟨bb, ob + k * 7 + 6, none⟩ = some (I O rb.border) from ⟨GA3.out.cell 2, GB3.out.cell 2, CA3.out.c0, CA3.out.c1, CA3.out.c2, CA3.out.c3, CA3.out.c4, CA3.out.c5, CA3.out.c6, CB3.out.c0, CB3.out.c1, CB3.out.c2, CB3.out.c3, CB3.out.c4, CB3.out.c5, CB3.out.c6⟩); clear hO6 hap6) | fail)
    go_wp2_with fail
    go_roundw
    case rel => exact ⟨k + 1, by omega, by go_num, by rw [ST.out, ← List.append_assoc]; exact HO6.out, HB6.out⟩
    case measure => simp [intOf]; omega
   ·obtain rfl : k = n := by omega
    have p2 := (GA.out.below hb).cell 2; have q2 := (GB.out.below hb).cell 2; have HL := mh (Re.linesCh_len x.lines y.lines k); clear hb hO
    by_cases hl : x.lines.length = y.lines.length
    ·have hlb : ((x.lines.length : Int) != (y.lines.length : Int)) = false := by simpa using (show (x.lines.length : Int) = (y.lines.length : Int) by omega)
     have EF := mh (show Re.farmCh x y = L0 ++ Re.linesCh x.lines y.lines k from by unfold Re.farmCh Re.lenCh; rw [if_pos hl, ED.out, EN.out, List.append_nil]); clear hl
     go_wp2_with fail
     go_ret
     exact ⟨_, rfl, by rw [EF.out]; exact HO.out.mono HBW.out.size, HBW.out.trans (HBO.out.mono HBW.out.size)⟩
    ·have hlb : ((x.lines.length : Int) != (y.lines.length : Int)) = true := by simpa using (show ¬ (x.lines.length : Int) = (y.lines.length : Int) by omega)
     have EF := mh (show Re.farmCh x y = L0 ++ Re.linesCh x.lines y.lines k ++ [⟨7, -1⟩] from by unfold Re.farmCh Re.lenCh; rw [if_neg hl, ED.out, EN.out]); clear hl
     go_wp2_with (first | (at_builtin; (refine OwnR.append Re.el_chg rfl (.tmp 48) (.tmp 50) rfl wz.heap.size _ (L0 ++ Re.linesCh x.lines y.lines k) ⟨7, -1⟩ #[I O 7, I O (-1)] rfl HO.out rfl rfl HBO.out.size (by rw [lap]; have := HL0.out; have := HL.out; omega) (by decide) ?_); intro v5 w5 hO5 hap5; have HO5 := mh hO5; have HB5 := mh (HBO.out.trans hap5.below); clear hO5 hap5) | fail)
     go_ret
     exact ⟨_, rfl, by rw [EF.out]; exact HO5.out.mono HBW.out.size, HBW.out.trans (HB5.out.mono HBW.out.size)⟩
end Go.Proofs.YtmlfcpglhipjgaaGreat
