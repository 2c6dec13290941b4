/-
  PACKED (pack8.py): what is needed of the texts Xj, Xl, Xm, Shelf2, Xn, Xo, Xd.
-/
import Derived.Test.YtmlfcpglhipjgaaGreatY0
import Derived.Test.YtmlfcpglhipjgaaGreatY1
import Derived.Test.YtmlfcpglhipjgaaGreatY6
import Derived.Test.YtmlfcpglhipjgaaGreatY13
import Derived.Test.YtmlfcpglhipjgaaGreatY17
import Derived.Test.YtmlfcpglhipjgaaGreatY24
import Derived.Test.YtmlfcpglhipjgaaGreatY33
import Derived.Test.YtmlfcpglhipjgaaGreatY34
set_option maxRecDepth 100000
set_option maxHeartbeats 8000000
namespace Go.Proofs.YtmlfcpglhipjgaaGreat.Sc
end Go.Proofs.YtmlfcpglhipjgaaGreat.Sc
namespace Go.Proofs.YtmlfcpglhipjgaaGreat.As
end Go.Proofs.YtmlfcpglhipjgaaGreat.As
namespace Go.Proofs.YtmlfcpglhipjgaaGreat
open Go.RowKit Sc As
namespace Re
def line0 : LineF := ⟨0, 0, [], 0, 0, 0, 0⟩
def linesCh (X Y : List LineF) : Nat → List Chg
 | 0 => []
 | k + 1 => linesCh X Y k ++ lineCh (X.getD k line0) (Y.getD k line0) k
def dayCh (x y : FarmF) : List Chg := if x.day = y.day then [] else [⟨1, -1⟩]
def lenCh (x y : FarmF) : List Chg := if x.lines.length = y.lines.length then [] else [⟨7, -1⟩]
def farmCh (x y : FarmF) : List Chg := dayCh x y ++ linesCh x.lines y.lines (min x.lines.length y.lines.length) ++ lenCh x y
theorem linesCh_len (X Y : List LineF) : ∀ k, (linesCh X Y k).length ≤ k * 5
 | 0 => Nat.le_refl _
 | k + 1 => by
   have := linesCh_len X Y k; have h2 := chTake_len (lineB (X.getD k line0) (Y.getD k line0)) k 5; unfold linesCh lineCh; rw [lap]; omega
end Re
theorem changes38_any {Q Q2 : Nat → Prop} (r s : RF) (x y : FarmF) (w : World) (hx : FV Q w r x) (hy : FV Q2 w s y) (lx : x.lines.length ≤ 1000) (_ly : y.lines.length ≤ 1000) :
  Calls Tryz.prog 41 #[.agg (fCells r).toArray, .agg (fCells s).toArray] w (Re.ChG (Re.farmCh x y) w) := by
 obtain ⟨afa, ada, ap, an, ac⟩ := r; obtain ⟨bfa, bda, bp, bn, bc⟩ := s; have e1 := hx.day; have e2 := hx.ln; have e3 := hy.day; have e4 := hy.ln; simp only at e1 e2 e3 e4; subst e1 e2 e3 e4; simp only [fCells]; have HX := mh hx.lines; have HY := mh hy.lines; simp only at HX HY; obtain ⟨g, eg⟩ : ∃ g, w.heap.size = g := ⟨_, rfl⟩; have hA1 := (brf w.heap.size w).alloc mle (.cells #[.int .i64 afa, .int .i64 x.day, .slice ap x.lines.length ac] 47); have hs1 : (w.alloc (.cells #[.int .i64 afa, .int .i64 x.day, .slice ap x.lines.length ac] 47)).heap.size = g + 1 := by rw [World.size_alloc, eg]
 have hA2 := (brf (w.alloc (.cells #[.int .i64 afa, .int .i64 x.day, .slice ap x.lines.length ac] 47)).heap.size (w.alloc (.cells #[.int .i64 afa, .int .i64 x.day, .slice ap x.lines.length ac] 47))).alloc mle (.cells #[.int .i64 bfa, .int .i64 y.day, .slice bp y.lines.length bc] 47); have HBW := mh (hA1.trans (hA2.mono hA1.size)); have GB := mh (hs1 ▸ Blk.new (w.alloc (.cells #[.int .i64 afa, .int .i64 x.day, .slice ap x.lines.length ac] 47)) #[.int .i64 bfa, .int .i64 y.day, .slice bp y.lines.length bc] 47); have GA := mh ((eg ▸ Blk.new w #[.int .i64 afa, .int .i64 x.day, .slice ap x.lines.length ac] 47 : Blk (w.alloc (.cells #[.int .i64 afa, .int .i64 x.day, .slice ap x.lines.length ac] 47)) g #[.int .i64 afa, .int .i64 x.day, .slice ap x.lines.length ac] 47).below hA2); obtain ⟨n, en⟩ : ∃ n, min x.lines.length y.lines.length = n := ⟨_, rfl⟩; have hmi : min (x.lines.length : Int) (y.lines.length : Int) = (n : Int) := by omega
 have hnx : n ≤ x.lines.length := by omega
 have hny : n ≤ y.lines.length := by omega
 have EN := mh en; clear hx hy hA1 hA2 hs1 en
 by_cases hd : x.day = y.day
 ·have hdb : (x.day != y.day) = false := by simpa using hd
  have ED := mh (show Re.dayCh x y = [] from by unfold Re.dayCh; rw [if_pos hd]); clear hd
  go_enter Tryz.func41, Tryz.ntmps41
  go_wp2_with fail
  clear eg; generalize (w.alloc (.cells #[.int .i64 afa, .int .i64 x.day, .slice ap x.lines.length ac] 47)).alloc (.cells #[.int .i64 bfa, .int .i64 y.day, .slice bp y.lines.length bc] 47) = w0 at *; have HO0 := mh (OwnR.nil (S := Re.SCh) w0 91 w0.heap.size); have HBW0 := mh (brf w0.heap.size w0); obtain ⟨L0, eL0⟩ : ∃ L, ([] : List Re.Chg) = L := ⟨_, rfl⟩; have HL0 := mh (show L0.length ≤ 1 by rw [← eL0]; exact Nat.zero_le _); rw [eL0] at ED HO0; clear eL0
  go_loopw [5, 23] (fun v iv W => ∃ k : Nat, k ≤ n ∧ iv = .int .i64 k ∧ OwnR Re.SCh W 91 w0.heap.size v (L0 ++ Re.linesCh x.lines y.lines k) ∧ Below w0.heap.size w0 W) (fun _ iv _ => n - (intOf iv).toNat)
  case atStart => exact ⟨0, Nat.zero_le _, rfl, by rw [show Re.linesCh x.lines y.lines 0 = [] from rfl, List.append_nil]; exact HO0.out, HBW0.out⟩
  case round =>
   obtain ⟨wo, rfl⟩ : ∃ wo : World, wo = wr := ⟨_, rfl⟩; obtain ⟨k, hk, rfl, hO, hb⟩ := hrel; have HO := mh hO; have HBO := mh hb; have hk0 : (0 : Int) ≤ (k : Int) := inn _
   by_cases hlt : k < n
   ·have hk1 : (k : Int) < (n : Int) := by omega
    have hkx : (k : Int) < (x.lines.length : Int) := by omega
    have hky : (k : Int) < (y.lines.length : Int) := by omega
    have HL := mh (Re.linesCh_len x.lines y.lines k); have hx1 : k < x.lines.length := by omega
    have hy1 : k < y.lines.length := by omega
    obtain ⟨ba, oa, ra, rfl, hla, hca, hva⟩ := HX.out.at hx1; obtain ⟨bb, ob, rb, rfl, hlb, hcb, hvb⟩ := HY.out.at hy1; have bw := HBW.out.trans (hb.mono HBW.out.size); have hca := hca.below bw hla; have hcb := hcb.below bw hlb; have hva := hva.below bw; have hvb := hvb.below bw; have HLA := mh (show ba < w0.heap.size by have := HBW.out.size; omega); have HLB := mh (show bb < w0.heap.size by have := HBW.out.size; omega); have HGA := mh (show g < w0.heap.size from GA.out.lt); have HGB := mh (show g + 1 < w0.heap.size from GB.out.lt); have hla := nll HLA.out hb.size; have hlb := nll HLB.out hb.size; have gX : x.lines.getD k Re.line0 = x.lines[k] := by rw [List.getD_eq_getElem?_getD, List.getElem?_eq_getElem hx1]; rfl
    have gY : y.lines.getD k Re.line0 = y.lines[k] := by rw [List.getD_eq_getElem?_getD, List.getElem?_eq_getElem hy1]; rfl
    have LN := mh (fun (W : World) (hw : Below wo.heap.size wo W) => line38_any ra rb x.lines[k] y.lines[k] k W (hva.below hw) (hvb.below hw)); have ST := mh (show Re.linesCh x.lines y.lines (k + 1) = Re.linesCh x.lines y.lines k ++ Re.lineCh x.lines[k] y.lines[k] k from by rw [← gX, ← gY]; rfl); have LL := mh (show (Re.lineCh x.lines[k] y.lines[k] k).length ≤ 5 from Re.chTake_len _ _ 5); obtain ⟨LC, eLC⟩ : ∃ L, Re.lineCh x.lines[k] y.lines[k] k = L := ⟨_, rfl⟩; rw [eLC] at LN ST LL; have GA1 := mh ((GA.out.below hb).below (brf wo.heap.size wo).drew); have GB1 := mh ((GB.out.below hb).below (brf wo.heap.size wo).drew); have CA1 := mh (hca.below (brf wo.heap.size wo).drew hla); have CB1 := mh (hcb.below (brf wo.heap.size wo).drew hlb); have hl0 := (show wo.drew.heap.size = wo.heap.size from rfl); have HLAo := mh hla; have HLBo := mh hlb; have KD := mh (show wo.drew.cell? ⟨g, 2, none⟩ = some (.slice (some ⟨ba, oa, none⟩) x.lines.length ac) ∧ wo.drew.cell? ⟨g + 1, 2, none⟩ = some (.slice (some ⟨bb, ob, none⟩) y.lines.length bc) ∧ wo.drew.cell? ⟨ba, oa + k * 7, none⟩ = some (.int .i64 ra.decl) ∧ wo.drew.cell? ⟨ba, oa + k * 7 + 1, none⟩ = some (.int .i64 ra.sch) ∧ wo.drew.cell? ⟨ba, oa + k * 7 + 2, none⟩ = some (.slice ra.dp ra.dn ra.dc) ∧ wo.drew.cell? ⟨ba, oa + k * 7 + 3, none⟩ = some (.int .i64 ra.season) ∧ wo.drew.cell? ⟨ba, oa + k * 7 + 4, none⟩ = some (.int .i64 ra.kind) ∧ wo.drew.cell? ⟨ba, oa + k * 7 + 5, none⟩ = some (.int .i64 ra.area) ∧ wo.drew.cell? ⟨ba, oa + k * 7 + 6, none⟩ = some (.int .i64 ra.border) ∧ wo.drew.cell? ⟨bb, ob + k * 7, none⟩ = some (.int .i64 rb.decl) ∧ wo.drew.cell? ⟨bb, ob + k * 7 + 1, none⟩ = some (.int .i64 rb.sch) ∧ wo.drew.cell? ⟨bb, ob + k * 7 + 2, none⟩ = some (.slice rb.dp rb.dn rb.dc) ∧ wo.drew.cell? ⟨bb, ob + k * 7 + 3, none⟩ = some (.int .i64 rb.season) ∧ wo.drew.cell? ⟨bb, ob + k * 7 + 4, none⟩ = some (.int .i64 rb.kind) ∧ wo.drew.cell? ⟨bb, ob + k * 7 + 5, none⟩ = some (.int .i64 rb.area) ∧ wo.drew.cell? ⟨bb, ob + k * 7 + 6, none⟩ = some (.int .i64 rb.border) from ⟨GA1.out.cell 2, GB1.out.cell 2, CA1.out.c0, CA1.out.c1, CA1.out.c2, CA1.out.c3, CA1.out.c4, CA1.out.c5, CA1.out.c6, CB1.out.c0, CB1.out.c1, CB1.out.c2, CB1.out.c3, CB1.out.c4, CB1.out.c5, CB1.out.c6⟩); simp only [lCells] at LN; clear hva hvb gX gY eLC hO hb hca hcb
    go_wp2_with fail
    go_region_held3 (fun w' => w'.cell? ⟨g, 2, none⟩ = some (.slice (some ⟨ba, oa, none⟩) x.lines.length ac) ∧ w'.cell? ⟨g + 1, 2, none⟩ = some (.slice (some ⟨bb, ob, none⟩) y.lines.length bc) ∧ w'.cell? ⟨ba, oa + k * 7, none⟩ = some (.int .i64 ra.decl) ∧ w'.cell? ⟨ba, oa + k * 7 + 1, none⟩ = some (.int .i64 ra.sch) ∧ w'.cell? ⟨ba, oa + k * 7 + 2, none⟩ = some (.slice ra.dp ra.dn ra.dc) ∧ w'.cell? ⟨ba, oa + k * 7 + 3, none⟩ = some (.int .i64 ra.season) ∧ w'.cell? ⟨ba, oa + k * 7 + 4, none⟩ = some (.int .i64 ra.kind) ∧ w'.cell? ⟨ba, oa + k * 7 + 5, none⟩ = some (.int .i64 ra.area) ∧ w'.cell? ⟨ba, oa + k * 7 + 6, none⟩ = some (.int .i64 ra.border) ∧ w'.cell? ⟨bb, ob + k * 7, none⟩ = some (.int .i64 rb.decl) ∧ w'.cell? ⟨bb, ob + k * 7 + 1, none⟩ = some (.int .i64 rb.sch) ∧ w'.cell? ⟨bb, ob + k * 7 + 2, none⟩ = some (.slice rb.dp rb.dn rb.dc) ∧ w'.cell? ⟨bb, ob + k * 7 + 3, none⟩ = some (.int .i64 rb.season) ∧ w'.cell? ⟨bb, ob + k * 7 + 4, none⟩ = some (.int .i64 rb.kind) ∧ w'.cell? ⟨bb, ob + k * 7 + 5, none⟩ = some (.int .i64 rb.area) ∧ w'.cell? ⟨bb, ob + k * 7 + 6, none⟩ = some (.int .i64 rb.border)) (first | with_reducible exact KD.out | with_reducible exact K2.out | with_reducible exact K3.out | go_keep) (first | (go_at_call 80; (with_reducible refine cmo (LN.out wo.drew (brf wo.heap.size wo).drew) ?_); rintro e w5 ⟨v5, rfl, hoc, hb5⟩; obtain ⟨pc, cc, rfl, hz5, -, -, -, hr5⟩ := hoc.cut (n := LC.length) rfl; have HZ5 := mh (fun e => (hz5 e).1); have HR5 := mh hr5; have GA2 := mh (GA1.out.below hb5); have GB2 := mh (GB1.out.below hb5); have CA2 := mh (CA1.out.below hb5 HLAo.out); have CB2 := mh (CB1.out.below hb5 HLBo.out); have HO5 := mh ((HO.out.below (brf wo.heap.size wo).drew).below hb5); have HB5 := mh (HBO.out.trans (((brf wo.heap.size wo).drew.trans hb5).mono HBO.out.size)); have K2 := mh ((kc hb5 <| kc hb5 <| kc hb5 <| kc hb5 <| kc hb5 <| kc hb5 <| kc hb5 <| kc hb5 <| kc hb5 <| kc hb5 <| kc hb5 <| kc hb5 <| kc hb5 <| kc hb5 <| kc hb5 <| k1 hb5) KD.out); clear hoc hz5 hr5 hb5) | (refine OwnR.stepAp Re.el_chg (by rfl) (.tmp 26) (.tmp 38) (by rfl) w0.heap.size _ (L0 ++ Re.linesCh x.lines y.lines k) LC pc cc LC.length rfl HO5.out HR5.out HZ5.out (by rfl) (by rfl) HB5.out.size (by rw [lap]; have := HL0.out; have := HL.out; have := LL.out; omega) (by decide) ?_; intro v6 w6 hO6 hap6; have HO6 := mh hO6; have HB6 := mh (HB5.out.trans hap6.below); have GA3 := mh (show Blk w6 g #[.int .i64 afa, .int .i64 x.day, .slice (some ⟨ba, oa, none⟩) x.lines.length ac] 47 from (hap6.below.block g HGA.out).trans GA2.out); have GB3 := mh (show Blk w6 (g + 1) #[.int .i64 bfa, .int .i64 y.day, .slice (some ⟨bb, ob, none⟩) y.lines.length bc] 47 from (hap6.below.block (g + 1) HGB.out).trans GB2.out); have CA3 := mh (CA2.out.blk (hap6.below.block ba HLA.out)); have CB3 := mh (CB2.out.blk (hap6.below.block bb HLB.out)); have K3 := mh (show w6.cell? ⟨g, 2, none⟩ = some (.slice (some ⟨ba, oa, none⟩) x.lines.length ac) ∧ w6.cell? ⟨g + 1, 2, none⟩ = some (.slice (some ⟨bb, ob, none⟩) y.lines.length bc) ∧ w6.cell? ⟨ba, oa + k * 7, none⟩ = some (.int .i64 ra.decl) ∧ w6.cell? ⟨ba, oa + k * 7 + 1, none⟩ = some (.int .i64 ra.sch) ∧ w6.cell? ⟨ba, oa + k * 7 + 2, none⟩ = some (.slice ra.dp ra.dn ra.dc) ∧ w6.cell? ⟨ba, oa + k * 7 + 3, none⟩ = some (.int .i64 ra.season) ∧ w6.cell? ⟨ba, oa + k * 7 + 4, none⟩ = some (.int .i64 ra.kind) ∧ w6.cell? ⟨ba, oa + k * 7 + 5, none⟩ = some (.int .i64 ra.area) ∧ w6.cell? ⟨ba, oa + k * 7 + 6, none⟩ = some (.int .i64 ra.border) ∧ w6.cell? ⟨bb, ob + k * 7, none⟩ = some (.int .i64 rb.decl) ∧ w6.cell? ⟨bb, ob + k * 7 + 1, none⟩ = some (.int .i64 rb.sch) ∧ w6.cell? ⟨bb, ob + k * 7 + 2, none⟩ = some (.slice rb.dp rb.dn rb.dc) ∧ w6.cell? ⟨bb, ob + k * 7 + 3, none⟩ = some (.int .i64 rb.season) ∧ w6.cell? ⟨bb, ob + k * 7 + 4, none⟩ = some (.int .i64 rb.kind) ∧ w6.cell? ⟨bb, ob + k * 7 + 5, none⟩ = some (.int .i64 rb.area) ∧ w6.cell? ⟨bb, ob + k * 7 + 6, none⟩ = some (.int .i64 rb.border) from ⟨GA3.out.cell 2, GB3.out.cell 2, CA3.out.c0, CA3.out.c1, CA3.out.c2, CA3.out.c3, CA3.out.c4, CA3.out.c5, CA3.out.c6, CB3.out.c0, CB3.out.c1, CB3.out.c2, CB3.out.c3, CB3.out.c4, CB3.out.c5, CB3.out.c6⟩); clear hO6 hap6) | fail)
    go_wp2_with fail
    go_roundw
    case rel => exact ⟨k + 1, by omega, by go_num, by rw [ST.out, ← List.append_assoc]; exact HO6.out, HB6.out⟩
    case measure => simp [intOf]; omega
   ·obtain rfl : k = n := by omega
    have p2 := (GA.out.below hb).cell 2; have q2 := (GB.out.below hb).cell 2; have HL := mh (Re.linesCh_len x.lines y.lines k); clear hb hO
    by_cases hl : x.lines.length = y.lines.length
    ·have hlb : ((x.lines.length : Int) != (y.lines.length : Int)) = false := by simpa using (show (x.lines.length : Int) = (y.lines.length : Int) by omega)
     have EF := mh (show Re.farmCh x y = L0 ++ Re.linesCh x.lines y.lines k from by unfold Re.farmCh Re.lenCh; rw [if_pos hl, ED.out, EN.out, List.append_nil]); clear hl
     go_wp2_with fail
     go_ret
     exact ⟨_, rfl, by rw [EF.out]; exact HO.out.mono HBW.out.size, HBW.out.trans (HBO.out.mono HBW.out.size)⟩
    ·have hlb : ((x.lines.length : Int) != (y.lines.length : Int)) = true := by simpa using (show ¬ (x.lines.length : Int) = (y.lines.length : Int) by omega)
     have EF := mh (show Re.farmCh x y = L0 ++ Re.linesCh x.lines y.lines k ++ [⟨7, -1⟩] from by unfold Re.farmCh Re.lenCh; rw [if_neg hl, ED.out, EN.out]); clear hl
     go_wp2_with (first | (at_builtin; (refine OwnR.append Re.el_chg rfl (.tmp 48) (.tmp 50) rfl w0.heap.size _ (L0 ++ Re.linesCh x.lines y.lines k) ⟨7, -1⟩ #[.int .i64 7, .int .i64 (-1)] rfl HO.out rfl rfl HBO.out.size (by rw [lap]; have := HL0.out; have := HL.out; omega) (by decide) ?_); intro v5 w5 hO5 hap5; have HO5 := mh hO5; have HB5 := mh (HBO.out.trans hap5.below); clear hO5 hap5) | fail)
     go_ret
     exact ⟨_, rfl, by rw [EF.out]; exact HO5.out.mono HBW.out.size, HBW.out.trans (HB5.out.mono HBW.out.size)⟩
 ·have hdb : (x.day != y.day) = true := by simpa using hd
  have ED := mh (show Re.dayCh x y = [⟨1, -1⟩] from by unfold Re.dayCh; rw [if_neg hd]); clear hd
  go_enter Tryz.func41, Tryz.ntmps41
  go_wp2_with (first | (at_builtin; (refine OwnR.append Re.el_chg rfl (.tmp 12) (.tmp 14) rfl ((w.alloc (.cells #[.int .i64 afa, .int .i64 x.day, .slice ap x.lines.length ac] 47)).alloc (.cells #[.int .i64 bfa, .int .i64 y.day, .slice bp y.lines.length bc] 47)).heap.size _ [] ⟨1, -1⟩ #[.int .i64 1, .int .i64 (-1)] rfl (OwnR.nil _ _ _) rfl (by simp [Act.eval]) mle (by simp) (by decide) ?_); intro v5 w5 hO5 hap5; have HO0 := mh hO5; have HBW0 := mh hap5.below; have p2 := (GA.out.below hap5.below).cell 2; have q2 := (GB.out.below hap5.below).cell 2; clear hO5 hap5) | fail)
  clear eg p2 q2; generalize (w.alloc (.cells #[.int .i64 afa, .int .i64 x.day, .slice ap x.lines.length ac] 47)).alloc (.cells #[.int .i64 bfa, .int .i64 y.day, .slice bp y.lines.length bc] 47) = w0 at *; obtain ⟨L0, eL0⟩ : ∃ L, ([⟨1, -1⟩] : List Re.Chg) = L := ⟨_, rfl⟩; have HL0 := mh (show L0.length ≤ 1 by rw [← eL0]; exact Nat.le_refl _); rw [List.nil_append] at HO0; rw [eL0] at ED HO0; clear eL0
  go_loopw [5, 23] (fun v iv W => ∃ k : Nat, k ≤ n ∧ iv = .int .i64 k ∧ OwnR Re.SCh W 91 w0.heap.size v (L0 ++ Re.linesCh x.lines y.lines k) ∧ Below w0.heap.size w0 W) (fun _ iv _ => n - (intOf iv).toNat)
  case atStart => exact ⟨0, Nat.zero_le _, rfl, by rw [show Re.linesCh x.lines y.lines 0 = [] from rfl, List.append_nil]; exact HO0.out, HBW0.out⟩
  case round =>
   obtain ⟨wo, rfl⟩ : ∃ wo : World, wo = wr := ⟨_, rfl⟩; obtain ⟨k, hk, rfl, hO, hb⟩ := hrel; have HO := mh hO; have HBO := mh hb; have hk0 : (0 : Int) ≤ (k : Int) := inn _
   by_cases hlt : k < n
   ·have hk1 : (k : Int) < (n : Int) := by omega
    have hkx : (k : Int) < (x.lines.length : Int) := by omega
    have hky : (k : Int) < (y.lines.length : Int) := by omega
    have HL := mh (Re.linesCh_len x.lines y.lines k); have hx1 : k < x.lines.length := by omega
    have hy1 : k < y.lines.length := by omega
    obtain ⟨ba, oa, ra, rfl, hla, hca, hva⟩ := HX.out.at hx1; obtain ⟨bb, ob, rb, rfl, hlb, hcb, hvb⟩ := HY.out.at hy1; have bw := HBW.out.trans (hb.mono HBW.out.size); have hca := hca.below bw hla; have hcb := hcb.below bw hlb; have hva := hva.below bw; have hvb := hvb.below bw; have HLA := mh (show ba < w0.heap.size by have := HBW.out.size; omega); have HLB := mh (show bb < w0.heap.size by have := HBW.out.size; omega); have HGA := mh (show g < w0.heap.size from GA.out.lt); have HGB := mh (show g + 1 < w0.heap.size from GB.out.lt); have hla := nll HLA.out hb.size; have hlb := nll HLB.out hb.size; have gX : x.lines.getD k Re.line0 = x.lines[k] := by rw [List.getD_eq_getElem?_getD, List.getElem?_eq_getElem hx1]; rfl
    have gY : y.lines.getD k Re.line0 = y.lines[k] := by rw [List.getD_eq_getElem?_getD, List.getElem?_eq_getElem hy1]; rfl
    have LN := mh (fun (W : World) (hw : Below wo.heap.size wo W) => line38_any ra rb x.lines[k] y.lines[k] k W (hva.below hw) (hvb.below hw)); have ST := mh (show Re.linesCh x.lines y.lines (k + 1) = Re.linesCh x.lines y.lines k ++ Re.lineCh x.lines[k] y.lines[k] k from by rw [← gX, ← gY]; rfl); have LL := mh (show (Re.lineCh x.lines[k] y.lines[k] k).length ≤ 5 from Re.chTake_len _ _ 5); obtain ⟨LC, eLC⟩ : ∃ L, Re.lineCh x.lines[k] y.lines[k] k = L := ⟨_, rfl⟩; rw [eLC] at LN ST LL; have GA1 := mh ((GA.out.below hb).below (brf wo.heap.size wo).drew); have GB1 := mh ((GB.out.below hb).below (brf wo.heap.size wo).drew); have CA1 := mh (hca.below (brf wo.heap.size wo).drew hla); have CB1 := mh (hcb.below (brf wo.heap.size wo).drew hlb); have hl0 := (show wo.drew.heap.size = wo.heap.size from rfl); have HLAo := mh hla; have HLBo := mh hlb; have KD := mh (show wo.drew.cell? ⟨g, 2, none⟩ = some (.slice (some ⟨ba, oa, none⟩) x.lines.length ac) ∧ wo.drew.cell? ⟨g + 1, 2, none⟩ = some (.slice (some ⟨bb, ob, none⟩) y.lines.length bc) ∧ wo.drew.cell? ⟨ba, oa + k * 7, none⟩ = some (.int .i64 ra.decl) ∧ wo.drew.cell? ⟨ba, oa + k * 7 + 1, none⟩ = some (.int .i64 ra.sch) ∧ wo.drew.cell? ⟨ba, oa + k * 7 + 2, none⟩ = some (.slice ra.dp ra.dn ra.dc) ∧ wo.drew.cell? ⟨ba, oa + k * 7 + 3, none⟩ = some (.int .i64 ra.season) ∧ wo.drew.cell? ⟨ba, oa + k * 7 + 4, none⟩ = some (.int .i64 ra.kind) ∧ wo.drew.cell? ⟨ba, oa + k * 7 + 5, none⟩ = some (.int .i64 ra.area) ∧ wo.drew.cell? ⟨ba, oa + k * 7 + 6, none⟩ = some (.int .i64 ra.border) ∧ wo.drew.cell? ⟨bb, ob + k * 7, none⟩ = some (.int .i64 rb.decl) ∧ wo.drew.cell? ⟨bb, ob + k * 7 + 1, none⟩ = some (.int .i64 rb.sch) ∧ wo.drew.cell? ⟨bb, ob + k * 7 + 2, none⟩ = some (.slice rb.dp rb.dn rb.dc) ∧ wo.drew.cell? ⟨bb, ob + k * 7 + 3, none⟩ = some (.int .i64 rb.season) ∧ wo.drew.cell? ⟨bb, ob + k * 7 + 4, none⟩ = some (.int .i64 rb.kind) ∧ wo.drew.cell? ⟨bb, ob + k * 7 + 5, none⟩ = some (.int .i64 rb.area) ∧ wo.drew.cell? ⟨bb, ob + k * 7 + 6, none⟩ = some (.int .i64 rb.border) from ⟨GA1.out.cell 2, GB1.out.cell 2, CA1.out.c0, CA1.out.c1, CA1.out.c2, CA1.out.c3, CA1.out.c4, CA1.out.c5, CA1.out.c6, CB1.out.c0, CB1.out.c1, CB1.out.c2, CB1.out.c3, CB1.out.c4, CB1.out.c5, CB1.out.c6⟩); simp only [lCells] at LN; clear hva hvb gX gY eLC hO hb hca hcb
    go_wp2_with fail
    go_region_held3 (fun w' => w'.cell? ⟨g, 2, none⟩ = some (.slice (some ⟨ba, oa, none⟩) x.lines.length ac) ∧ w'.cell? ⟨g + 1, 2, none⟩ = some (.slice (some ⟨bb, ob, none⟩) y.lines.length bc) ∧ w'.cell? ⟨ba, oa + k * 7, none⟩ = some (.int .i64 ra.decl) ∧ w'.cell? ⟨ba, oa + k * 7 + 1, none⟩ = some (.int .i64 ra.sch) ∧ w'.cell? ⟨ba, oa + k * 7 + 2, none⟩ = some (.slice ra.dp ra.dn ra.dc) ∧ w'.cell? ⟨ba, oa + k * 7 + 3, none⟩ = some (.int .i64 ra.season) ∧ w'.cell? ⟨ba, oa + k * 7 + 4, none⟩ = some (.int .i64 ra.kind) ∧ w'.cell? ⟨ba, oa + k * 7 + 5, none⟩ = some (.int .i64 ra.area) ∧ w'.cell? ⟨ba, oa + k * 7 + 6, none⟩ = some (.int .i64 ra.border) ∧ w'.cell? ⟨bb, ob + k * 7, none⟩ = some (.int .i64 rb.decl) ∧ w'.cell? ⟨bb, ob + k * 7 + 1, none⟩ = some (.int .i64 rb.sch) ∧ w'.cell? ⟨bb, ob + k * 7 + 2, none⟩ = some (.slice rb.dp rb.dn rb.dc) ∧ w'.cell? ⟨bb, ob + k * 7 + 3, none⟩ = some (.int .i64 rb.season) ∧ w'.cell? ⟨bb, ob + k * 7 + 4, none⟩ = some (.int .i64 rb.kind) ∧ w'.cell? ⟨bb, ob + k * 7 + 5, none⟩ = some (.int .i64 rb.area) ∧ w'.cell? ⟨bb, ob + k * 7 + 6, none⟩ = some (.int .i64 rb.border)) (first | with_reducible exact KD.out | with_reducible exact K2.out | with_reducible exact K3.out | go_keep) (first | (go_at_call 80; (with_reducible refine cmo (LN.out wo.drew (brf wo.heap.size wo).drew) ?_); rintro e w5 ⟨v5, rfl, hoc, hb5⟩; obtain ⟨pc, cc, rfl, hz5, -, -, -, hr5⟩ := hoc.cut (n := LC.length) rfl; have HZ5 := mh (fun e => (hz5 e).1); have HR5 := mh hr5; have GA2 := mh (GA1.out.below hb5); have GB2 := mh (GB1.out.below hb5); have CA2 := mh (CA1.out.below hb5 HLAo.out); have CB2 := mh (CB1.out.below hb5 HLBo.out); have HO5 := mh ((HO.out.below (brf wo.heap.size wo).drew).below hb5); have HB5 := mh (HBO.out.trans (((brf wo.heap.size wo).drew.trans hb5).mono HBO.out.size)); have K2 := mh ((kc hb5 <| kc hb5 <| kc hb5 <| kc hb5 <| kc hb5 <| kc hb5 <| kc hb5 <| kc hb5 <| kc hb5 <| kc hb5 <| kc hb5 <| kc hb5 <| kc hb5 <| kc hb5 <| kc hb5 <| k1 hb5) KD.out); clear hoc hz5 hr5 hb5) | (refine OwnR.stepAp Re.el_chg (by rfl) (.tmp 26) (.tmp 38) (by rfl) w0.heap.size _ (L0 ++ Re.linesCh x.lines y.lines k) LC pc cc LC.length rfl HO5.out HR5.out HZ5.out (by rfl) (by rfl) HB5.out.size (by rw [lap]; have := HL0.out; have := HL.out; have := LL.out; omega) (by decide) ?_; intro v6 w6 hO6 hap6; have HO6 := mh hO6; have HB6 := mh (HB5.out.trans hap6.below); have GA3 := mh (show Blk w6 g #[.int .i64 afa, .int .i64 x.day, .slice (some ⟨ba, oa, none⟩) x.lines.length ac] 47 from (hap6.below.block g HGA.out).trans GA2.out); have GB3 := mh (show Blk w6 (g + 1) #[.int .i64 bfa, .int .i64 y.day, .slice (some ⟨bb, ob, none⟩) y.lines.length bc] 47 from (hap6.below.block (g + 1) HGB.out).trans GB2.out); have CA3 := mh (CA2.out.blk (hap6.below.block ba HLA.out)); have CB3 := mh (CB2.out.blk (hap6.below.block bb HLB.out)); have K3 := mh (show w6.cell? ⟨g, 2, none⟩ = some (.slice (some ⟨ba, oa, none⟩) x.lines.length ac) ∧ w6.cell? ⟨g + 1, 2, none⟩ = some (.slice (some ⟨bb, ob, none⟩) y.lines.length bc) ∧ w6.cell? ⟨ba, oa + k * 7, none⟩ = some (.int .i64 ra.decl) ∧ w6.cell? ⟨ba, oa + k * 7 + 1, none⟩ = some (.int .i64 ra.sch) ∧ w6.cell? ⟨ba, oa + k * 7 + 2, none⟩ = some (.slice ra.dp ra.dn ra.dc) ∧ w6.cell? ⟨ba, oa + k * 7 + 3, none⟩ = some (.int .i64 ra.season) ∧ w6.cell? ⟨ba, oa + k * 7 + 4, none⟩ = some (.int .i64 ra.kind) ∧ w6.cell? ⟨ba, oa + k * 7 + 5, none⟩ = some (.int .i64 ra.area) ∧ w6.cell? ⟨ba, oa + k * 7 + 6, none⟩ = some (.int .i64 ra.border) ∧ w6.cell? ⟨bb, ob + k * 7, none⟩ = some (.int .i64 rb.decl) ∧ w6.cell? ⟨bb, ob + k * 7 + 1, none⟩ = some (.int .i64 rb.sch) ∧ w6.cell? ⟨bb, ob + k * 7 + 2, none⟩ = some (.slice rb.dp rb.dn rb.dc) ∧ w6.cell? ⟨bb, ob + k * 7 + 3, none⟩ = some (.int .i64 rb.season) ∧ w6.cell? ⟨bb, ob + k * 7 + 4, none⟩ = some (.int .i64 rb.kind) ∧ w6.cell? ⟨bb, ob + k * 7 + 5, none⟩ = some (.int .i64 rb.area) ∧ w6.cell? ⟨bb, ob + k * 7 + 6, none⟩ = some (.int .i64 rb.border) from ⟨GA3.out.cell 2, GB3.out.cell 2, CA3.out.c0, CA3.out.c1, CA3.out.c2, CA3.out.c3, CA3.out.c4, CA3.out.c5, CA3.out.c6, CB3.out.c0, CB3.out.c1, CB3.out.c2, CB3.out.c3, CB3.out.c4, CB3.out.c5, CB3.out.c6⟩); clear hO6 hap6) | fail)
    go_wp2_with fail
    go_roundw
    case rel => exact ⟨k + 1, by omega, by go_num, by rw [ST.out, ← List.append_assoc]; exact HO6.out, HB6.out⟩
    case measure => simp [intOf]; omega
   ·obtain rfl : k = n := by omega
    have p2 := (GA.out.below hb).cell 2; have q2 := (GB.out.below hb).cell 2; have HL := mh (Re.linesCh_len x.lines y.lines k); clear hb hO
    by_cases hl : x.lines.length = y.lines.length
    ·have hlb : ((x.lines.length : Int) != (y.lines.length : Int)) = false := by simpa using (show (x.lines.length : Int) = (y.lines.length : Int) by omega)
     have EF := mh (show Re.farmCh x y = L0 ++ Re.linesCh x.lines y.lines k from by unfold Re.farmCh Re.lenCh; rw [if_pos hl, ED.out, EN.out, List.append_nil]); clear hl
     go_wp2_with fail
     go_ret
     exact ⟨_, rfl, by rw [EF.out]; exact HO.out.mono HBW.out.size, HBW.out.trans (HBO.out.mono HBW.out.size)⟩
    ·have hlb : ((x.lines.length : Int) != (y.lines.length : Int)) = true := by simpa using (show ¬ (x.lines.length : Int) = (y.lines.length : Int) by omega)
     have EF := mh (show Re.farmCh x y = L0 ++ Re.linesCh x.lines y.lines k ++ [⟨7, -1⟩] from by unfold Re.farmCh Re.lenCh; rw [if_neg hl, ED.out, EN.out]); clear hl
     go_wp2_with (first | (at_builtin; (refine OwnR.append Re.el_chg rfl (.tmp 48) (.tmp 50) rfl w0.heap.size _ (L0 ++ Re.linesCh x.lines y.lines k) ⟨7, -1⟩ #[.int .i64 7, .int .i64 (-1)] rfl HO.out rfl rfl HBO.out.size (by rw [lap]; have := HL0.out; have := HL.out; omega) (by decide) ?_); intro v5 w5 hO5 hap5; have HO5 := mh hO5; have HB5 := mh (HBO.out.trans hap5.below); clear hO5 hap5) | fail)
     go_ret
     exact ⟨_, rfl, by rw [EF.out]; exact HO5.out.mono HBW.out.size, HBW.out.trans (HB5.out.mono HBW.out.size)⟩
theorem zeroCells_size (z : Array Value) (n : Nat) : (Builtin.zeroCells z n).size = n * z.size := by
 unfold Builtin.zeroCells; rw [Array.size_map, Array.size_range]
theorem run_append_make {P : Program} (w : World) (t ty ti e : TypeId) (i : TypeInfo) (z : Value) (ht : P.underlying t = some (.slice e)) (hti : P.underlying ti = some (.int .i64)) (hi : P.info? e = some i) (hz : i.zero = some z)
  (hs : 0 < i.size) (n : Nat) (h0 : 0 < n) (h63 : (n : Int) ≤ 1099511627776) (hb : i.bytes ≤ 64) :
  (Builtin.append_ #[t, ti] ty #[.slice none 0 0, .int .i64 (n : Int)]).run P w =
   .ok (.slice (some ⟨w.heap.size, 0, none⟩) n (grownCap w n 0 e)) (w.drew.alloc (.cells (Builtin.zeroCells z.cells n ++ Builtin.zeroCells z.cells (grownCap w n 0 e - n)) e)) := by
 have hn : n ≠ 0 := by omega
 have h63' : ¬ (9223372036854775807 < (n : Int)) := by omega
 have hm : n * i.bytes ≤ 1099511627776 * 64 := Nat.mul_le_mul (by omega) hb; have h48' : ¬ (281474976710656 < Builtin.nextslicecap n 0 * i.bytes) := by rw [nextslicecap_zero h0]; omega
 have h48i : ¬ (281474976710656 < (n : Int) * (i.bytes : Int)) := by
  have : ((n * i.bytes : Nat) : Int) = (n : Int) * (i.bytes : Int) := Int.natCast_mul _ _; omega
 have hw : IntKind.i64.wrap (n : Int) = (n : Int) := by rw [IntKind.wrap_i64]; omega
 have hneg : ¬ ((n : Int) < 0) := by omega
 have hns : ¬ (n * i.size = 0) := by rw [Nat.mul_eq_zero]; omega
 simp [Builtin.append_, run_underlying ht, run_underlying hti, sizeOf, typeInfo, zeroValue, hi, hz, Builtin.lenOf, hn, h63', h48', h48i, hw, hneg, hns, Question.forced, run_firstCells_none, newRow, grownCap, asInt, asIntOf]
theorem info_farm_ex : ∃ i z, Tryz.prog.info? 47 = some i ∧ i.zero = some z ∧ i.size = 3 ∧ i.bytes = 40 ∧ z.cells.size = 3 := by
 obtain ⟨i, h1, h2, h3, h4⟩ := info_parts info_farm; exact ⟨i, _, h1, h2, h3, h4, rfl⟩
section
attribute [-go_sem] Builtin.append_
theorem growF_any (n : Nat) (hn : n ≤ 1000000) (w : World) :
  Calls Tryz.prog 122 #[.slice none 0 0, .int .i64 (n : Int)] w fun e w' => ∃ v, e = .returned v ∧ OwnR SF w' 47 w.heap.size v [] ∧ Below w.heap.size w w' := by
 have hn0 : (0 : Int) ≤ (n : Int) := inn _
 rcases Nat.eq_zero_or_pos n with hz | hz
 ·subst hz
  rw [show ((0 : Nat) : Int) = 0 from rfl]
  go_enter Tryz.func122, Tryz.ntmps122
  go_wp2
  go_ret
  exact ⟨_, rfl, OwnR.nil _ _ _, brf _ _⟩
 ·obtain ⟨i, z, h1, h2, h3, h4, h5⟩ := info_farm_ex
  have hni : (n : Int) ≤ 1000000 := by omega
  have hpos : (0 : Int) < (n : Int) := by omega
  have hposn : decide (0 < n) = true := dqt hz; obtain ⟨ZS, hz2, RA⟩ : ∃ ZS : Nat → Array Value, (∀ c, n ≤ c → (ZS c).size = c * 3) ∧ ∀ (W : World) (ty : TypeId), (Builtin.append_ #[30, 3] ty #[.slice none 0 0, .int .i64 (n : Int)]).run Tryz.prog W = .ok (.slice (some ⟨W.heap.size, 0, none⟩) n (grownCap W n 0 47)) (W.drew.alloc (.cells (ZS (grownCap W n 0 47)) 47)) := by
   refine ⟨fun c => Builtin.zeroCells z.cells n ++ Builtin.zeroCells z.cells (c - n), fun c hc => ?_, fun W ty => run_append_make (P := Tryz.prog) W 30 ty 3 47 i z Tryz.underlying30 Tryz.underlying3 h1 h2 (by omega) n hz (by omega) (by omega)⟩
   show (Builtin.zeroCells z.cells n ++ Builtin.zeroCells z.cells (c - n)).size = c * 3
   rw [Array.size_append, zeroCells_size, zeroCells_size, h5]; omega
  have HZ := mh hz2; clear h1 h2 h3 h4 h5 hz2
  go_enter Tryz.func122, Tryz.ntmps122
  go_wp2
  go_ret
  have hc := grownCap_ge w n 0 47; have hm := grownCap_le_maxLen w n 0 47 (by unfold maxLen; omega); exact ⟨_, rfl, ⟨rfl, .inr ⟨w.heap.size, _, ZS (grownCap w n 0 47), rfl, Nat.le_refl _, World.alloc_heap_new w (.cells (ZS (grownCap w n 0 47)) 47), Nat.zero_le _, hm, HZ.out _ hc, by simp [Shape.flat]⟩⟩, ((brf w.heap.size w).alloc mle _).drew⟩
end
end Go.Proofs.YtmlfcpglhipjgaaGreat
namespace Go.Proofs.YtmlfcpglhipjgaaGreat
open Go.RowKit Sc As
theorem run_append_none_cap {P : Program} {w : World} (base : Nat) (t ty e : TypeId) (i : TypeInfo) (size : Nat) (ht : P.underlying t = some (.slice e)) (hi : P.info? e = some i)
  (v : Value) (n c : Nat) (xs : List Value) (hown : w.ownsRow base e size v n xs) : (Builtin.append_ #[t, t] ty #[v, .slice none 0 c]).run P w = .ok v w := by
 rcases hown.2 with ⟨rfl, rfl⟩ | ⟨g, cap, cur, rfl, _, _, hnc, _⟩
 ·simp [Builtin.append_, run_underlying ht, sizeOf, typeInfo, hi, Builtin.lenOf, Builtin.firstCells]
 ·simp [Builtin.append_, run_underlying ht, sizeOf, typeInfo, hi, Builtin.lenOf, Builtin.firstCells, hnc, storeCells]
theorem OwnR.appendAny {α : Type} {S : Shape α} {P : Program} {T TS : TypeId} {bytes : Nat} (he : Elem S P T TS bytes) {w : World} {ops : Array Oper} {rest : List Oper} {o : Oper} {a : Act} {Q : Exit → Act → World → Prop} (hgd : o.guard = none) (s x : Operand)
  (ho : o.op = .call { callee := .builtin .append, args := #[s, x], argTypes := #[TS, TS] }) (B : Nat) (v : Value) (L M : List α) (p : Option Addr) (c n : Nat) (hM : M.length = n) (hown : OwnR S w T B v L) (hsrc : Recs S w p M) (hs : a.eval s = v)
  (hx : a.eval x = .slice p n c) (hB : B ≤ w.heap.size) (hn : L.length + n < 1073741824) (hby : bytes ≤ 65536)
  (h : ∀ v' w', OwnR S w' T B v' (L ++ M) → Appends w w' B w.heap.size v v' → wpList P ops Q rest (a.put o.dst v') w') : wpList P ops Q (o :: rest) a w := by
 cases p with
 | none =>
   subst hM; obtain ⟨i0, z, e1, e2, e3, e4, e5⟩ := he.ex; have hM : M = [] := by
    rcases hsrc.2 with h | ⟨b, off, h, _⟩
    ·exact h
    ·cases h
   subst hM; have hr := h v w (by rw [List.append_nil]; exact hown) ⟨brf _ _, Nat.le_refl _, fun _ _ _ => rfl, .inl rfl⟩; refine wpList_plain hgd fun K hK => ?_
   have hrun := run_append_none_cap (P := P) (w := w) B TS o.type T i0 S.k he.ts e1 v L.length c (S.flat L) hown; unfold Oper.wp
   simp [execOp, ho, resolve, invoke, builtin, hs, hx, hrun, Result.andThen]
   exact hK _ _ hr
 | some ad => exact OwnR.appendAll he hgd s x ho B v L M (some ad) c n hM hown hsrc (fun h => by cases h) hs hx hB hn hby h
theorem concat_any (gb : Nat) (p p2 : Option Addr) (R R2 : List RF) (c c2 : Nat) (w : World) (h1 : Recs SF w p R) (h2 : Recs SF w p2 R2) (l1 : R.length ≤ 1000) (l2 : R2.length ≤ 1000)
  (x0 : w.cell? ⟨gb, 0, none⟩ = some (.slice p R.length c)) (x1 : w.cell? ⟨gb, 1, none⟩ = some (.slice p2 R2.length c2)) :
  Calls Tryz.prog 83 #[.slice (some ⟨gb, 0, none⟩) 2 2] w fun e w' => ∃ v, e = .returned v ∧ OwnR SF w' 47 w.heap.size v (R ++ R2) ∧ Below w.heap.size w w' := by
 have H1 := mh h1; have H2 := mh h2; have hgb : gb < w.heap.size := World.block_lt_of_cell? w ⟨gb, 0, none⟩ x0; obtain ⟨n1, en1⟩ : ∃ n, R.length = n := ⟨_, rfl⟩; obtain ⟨n2, en2⟩ : ∃ n, R2.length = n := ⟨_, rfl⟩; rw [en1] at x0 l1; rw [en2] at x1 l2; have HN1 := mh en1; have HN2 := mh en2; have GR := mh (growF_any (n1 + n2) (by omega) w); rw [Int.natCast_add] at GR; have hn1 : (0 : Int) ≤ (n1 : Int) := inn _; have hn2 : (0 : Int) ≤ (n2 : Int) := inn _; have h1i : (n1 : Int) ≤ 1000 := by omega
 have h2i : (n2 : Int) ≤ 1000 := by omega
 have X0 := mh x0; have X1 := mh x1; clear h1 h2 en1 en2
 go_enter Tryz.func83, Tryz.ntmps83
 go_wp2
 go_loopw [3, 11] (fun sv iv W => w = W ∧ ((iv = .int .i64 0 ∧ sv = .int .i64 0) ∨ (iv = .int .i64 1 ∧ sv = .int .i64 n1) ∨ (iv = .int .i64 2 ∧ sv = .int .i64 ((n1 : Int) + (n2 : Int))))) (fun _ iv _ => 2 - (intOf iv).toNat)
 case atStart => exact ⟨rfl, .inl ⟨rfl, rfl⟩⟩
 case round =>
  obtain ⟨ew, hh⟩ := hrel; subst ew
  rcases hh with ⟨rfl, rfl⟩ | ⟨rfl, rfl⟩ | ⟨rfl, rfl⟩
  ·have hd : decide ((n1 : Int) < 0) = false := dqf (by omega)
   go_wp2
   go_roundw
   case rel => exact ⟨by first | rfl | trivial, .inr (.inl ⟨by first | rfl | trivial | go_num, by first | rfl | trivial | go_num⟩)⟩
   case measure => simp [intOf]
  ·have hd : decide ((n1 : Int) + (n2 : Int) < 0) = false := dqf (by omega)
   go_wp2
   go_roundw
   case rel => exact ⟨by first | rfl | trivial, .inr (.inr ⟨by first | rfl | trivial | go_num, by first | rfl | trivial | go_num⟩)⟩
   case measure => simp [intOf]
  ·go_wp2_with fail
   (with_reducible refine cmo GR.out ?_); rintro e w5 ⟨v5, rfl, hO5, hb5⟩; have HO5 := mh hO5; have HB5 := mh hb5; clear hO5 hb5
   go_wp2_with fail
   go_loopw [6, 27] (fun sv iv W => Below w.heap.size w W ∧ ((iv = .int .i64 0 ∧ OwnR SF W 47 w.heap.size sv []) ∨ (iv = .int .i64 1 ∧ OwnR SF W 47 w.heap.size sv R) ∨ (iv = .int .i64 2 ∧ OwnR SF W 47 w.heap.size sv (R ++ R2)))) (fun _ iv _ => 2 - (intOf iv).toNat)
   case atStart => exact ⟨HB5.out, .inl ⟨rfl, HO5.out⟩⟩
   case round =>
    obtain ⟨wo, rfl⟩ : ∃ wo : World, wo = wr := ⟨_, rfl⟩; obtain ⟨hb, hh⟩ := hrel; have HB := mh hb; have z0 := (hb.cell (p := ⟨gb, 0, none⟩) hgb).trans X0.out; have z1 := (hb.cell (p := ⟨gb, 1, none⟩) hgb).trans X1.out; have RA := mh (H1.out.below hb); have RB := mh (H2.out.below hb); clear hb
    rcases hh with ⟨rfl, hO⟩ | ⟨rfl, hO⟩ | ⟨rfl, hO⟩
    ·have HO := mh hO
     clear hO
     go_wp2_with (first | (at_builtin; (refine OwnR.appendAny el_farm rfl (.tmp 31) (.tmp 32) rfl w.heap.size _ [] R p c n1 HN1.out HO.out RA.out rfl rfl HB.out.size (by simp; omega) (by decide) ?_); intro v7 w7 hO7 hap7; have HO7 := mh hO7; have HB7 := mh (HB.out.trans hap7.below); clear hO7 hap7) | fail)
     go_roundw
     case rel => exact ⟨HB7.out, .inr (.inl ⟨by first | rfl | trivial | go_num, HO7.out⟩)⟩
     case measure => simp [intOf]
    ·have HO := mh hO
     clear hO
     go_wp2_with (first | (at_builtin; (refine OwnR.appendAny el_farm rfl (.tmp 31) (.tmp 32) rfl w.heap.size _ R R2 p2 c2 n2 HN2.out HO.out RB.out rfl rfl HB.out.size (by have := HN1.out; omega) (by decide) ?_); intro v7 w7 hO7 hap7; have HO7 := mh hO7; have HB7 := mh (HB.out.trans hap7.below); clear hO7 hap7) | fail)
     go_roundw
     case rel => exact ⟨HB7.out, .inr (.inr ⟨by first | rfl | trivial | go_num, HO7.out⟩)⟩
     case measure => simp [intOf]
    ·have HO := mh hO
     clear hO
     go_wp2_with fail
     go_ret
     exact ⟨_, rfl, HO.out, HB.out⟩
end Go.Proofs.YtmlfcpglhipjgaaGreat
namespace Go.Proofs
open Go.Shelf
def Tryz.laysSlE43_f85_ren : Go.Shelf.Ren := ⟨fun | 43 => 85 | n => n, fun | 22 => 22 | 23 => 3 | 3 => 3 | 4 => 4 | 0 => 0 | n => n, fun | n => n⟩
theorem Tryz.laysSlE43_f85 : Go.Proofs.SlLaysE.n43 Tryz.prog Tryz.laysSlE43_f85_ren := {
 mixed := by kernel_rfl
 f43 := ⟨Tryz.f85.name, by decide, Tryz.func85.trans (congrArg some (by kernel_rfl))⟩
 t0 := Tryz.underlying0
 a0 := Tryz.isAgg0
 z0 := Tryz.sizeOf0
 v0 := Tryz.zeroValue0
 t3 := Tryz.underlying3
 a3 := Tryz.isAgg3
 z3 := Tryz.sizeOf3
 v3 := Tryz.zeroValue3
 t4 := Tryz.underlying4
 a4 := Tryz.isAgg4
 z4 := Tryz.sizeOf4
 v4 := Tryz.zeroValue4
 t22 := Tryz.underlying22
 a22 := Tryz.isAgg22
 z22 := Tryz.sizeOf22
 v22 := Tryz.zeroValue22
 a23 := Tryz.isAgg3
 z23 := Tryz.sizeOf3 }
open Go.RowKit Go.Lib Go.Sort in
theorem Tryz.slices_Compact {α : Type} [Inhabited α] [DecidableEq α] (enc : α → Value) (hO : OneCell enc) (heq : EqlAt Tryz.prog 3 enc (fun x y => decide (x = y))) (hne : NeqAt Tryz.prog 3 enc (fun x y => decide (x = y))) (zr : α) (v23 : ∀ w, (zeroValue 3).run Tryz.prog w = .ok (enc zr) w) (blk off cap : Nat) (d : Array α) (w : World) (hH : Holds enc w blk off d) (hsz : d.size ≤ 9223372036854775807) (hcap : d.size ≤ cap) :
  Calls Tryz.prog 85 #[.slice (some ⟨blk, off, none⟩) d.size cap] w fun e w' => e = .returned (.slice (some ⟨blk, off, none⟩) (compactUpTo d d.size).length cap) ∧ ∃ q, w' = putRow enc (Sort.ahead w q) blk off (compactUpTo d d.size ++ List.replicate (d.size - (compactUpTo d d.size).length) zr).toArray := AnyE.slices_Compact Tryz.laysSlE43_f85 enc hO heq hne zr v23 blk off cap d w hH hsz hcap
def Tryz.laysNm189_ren : Go.Shelf.Ren := ⟨fun | 189 => 84 | 125 => 124 | 257 => 123 | 128 => 175 | 129 => 176 | 294 => 166 | 295 => 167 | 296 => 168 | 297 => 169 | 298 => 170 | 299 => 171 | 216 => 172 | 300 => 173 | 301 => 174 | 328 => 202 | 329 => 203 | 330 => 204 | 331 => 205 | 332 => 206 | 215 => 189 | 343 => 226 | n => n, fun | 28 => 22 | 3 => 3 | 46 => 178 | 0 => 0 | 51 => 217 | 53 => 219 | 4 => 4 | 183 => 210 | 182 => 209 | 131 => 179 | 5 => 5 | 9 => 9 | 218 => 240 | 222 => 244 | 228 => 257 | 229 => 84 | n => n, fun | n => n⟩
theorem Tryz.laysNm189 : Go.Proofs.Lays.n189 Tryz.prog Tryz.laysNm189_ren := {
 mixed := by kernel_rfl
 f125 := Tryz.func124.trans (congrArg some (by kernel_rfl))
 f128 := Tryz.func175.trans (congrArg some (by kernel_rfl))
 f129 := Tryz.func176.trans (congrArg some (by kernel_rfl))
 f189 := Tryz.func84.trans (congrArg some (by kernel_rfl))
 f215 := Tryz.func189.trans (congrArg some (by kernel_rfl))
 f216 := Tryz.func172.trans (congrArg some (by kernel_rfl))
 f257 := Tryz.func123.trans (congrArg some (by kernel_rfl))
 f294 := Tryz.func166.trans (congrArg some (by kernel_rfl))
 f295 := Tryz.func167.trans (congrArg some (by kernel_rfl))
 f296 := Tryz.func168.trans (congrArg some (by kernel_rfl))
 f297 := Tryz.func169.trans (congrArg some (by kernel_rfl))
 f298 := Tryz.func170.trans (congrArg some (by kernel_rfl))
 f299 := Tryz.func171.trans (congrArg some (by kernel_rfl))
 f300 := Tryz.func173.trans (congrArg some (by kernel_rfl))
 f301 := Tryz.func174.trans (congrArg some (by kernel_rfl))
 f328 := Tryz.func202.trans (congrArg some (by kernel_rfl))
 f329 := Tryz.func203.trans (congrArg some (by kernel_rfl))
 f330 := Tryz.func204.trans (congrArg some (by kernel_rfl))
 f331 := Tryz.func205.trans (congrArg some (by kernel_rfl))
 f332 := Tryz.func206.trans (congrArg some (by kernel_rfl))
 f343 := Tryz.func226.trans (congrArg some (by kernel_rfl))
 t0 := Tryz.underlying0
 a0 := Tryz.isAgg0
 z0 := Tryz.sizeOf0
 v0 := Tryz.zeroValue0
 t3 := Tryz.underlying3
 a3 := Tryz.isAgg3
 z3 := Tryz.sizeOf3
 v3 := Tryz.zeroValue3
 t4 := Tryz.underlying4
 a4 := Tryz.isAgg4
 z4 := Tryz.sizeOf4
 v4 := Tryz.zeroValue4
 t5 := Tryz.underlying5
 a5 := Tryz.isAgg5
 z5 := Tryz.sizeOf5
 v5 := Tryz.zeroValue5
 t9 := Tryz.underlying9
 a9 := Tryz.isAgg9
 z9 := Tryz.sizeOf9
 v9 := Tryz.zeroValue9
 t28 := Tryz.underlying22
 a28 := Tryz.isAgg22
 z28 := Tryz.sizeOf22
 v28 := Tryz.zeroValue22
 t46 := Tryz.underlying178
 a46 := Tryz.isAgg178
 z46 := Tryz.sizeOf178
 v46 := Tryz.zeroValue178
 t51 := Tryz.underlying217
 a51 := Tryz.isAgg217
 z51 := Tryz.sizeOf217
 v51 := Tryz.zeroValue217
 t53 := Tryz.underlying219
 a53 := Tryz.isAgg219
 z53 := Tryz.sizeOf219
 v53 := Tryz.zeroValue219
 t131 := Tryz.underlying179
 a131 := Tryz.isAgg179
 z131 := Tryz.sizeOf179
 v131 := Tryz.zeroValue179
 t182 := Tryz.underlying209
 a182 := Tryz.isAgg209
 z182 := Tryz.sizeOf209
 v182 := Tryz.zeroValue209
 t183 := Tryz.underlying210
 a183 := Tryz.isAgg210
 z183 := Tryz.sizeOf210
 v183 := Tryz.zeroValue210
 t218 := Tryz.underlying240
 a218 := Tryz.isAgg240
 z218 := Tryz.sizeOf240
 v218 := Tryz.zeroValue240
 t222 := Tryz.underlying244
 a222 := Tryz.isAgg244
 z222 := Tryz.sizeOf244
 v222 := Tryz.zeroValue244
 t228 := Tryz.underlying257
 a228 := Tryz.isAgg257
 z228 := Tryz.sizeOf257
 v228 := Tryz.zeroValue257
 t229 := Tryz.underlying84
 a229 := Tryz.isAgg84
 z229 := Tryz.sizeOf84
 v229 := Tryz.zeroValue84 }
open Go.RowKit Go.Lib Go.Sort in
theorem Tryz.slices_Sort_int (blk off cap : Nat) (zs : List Int) (w : World) (hH : Holds (Value.int .i64) w blk off zs.toArray) (hblk : blk < w.heap.size) (hsz : zs.length < 4611686018427387904) :
  Calls Tryz.prog 84 #[.slice (some ⟨blk, off, none⟩) zs.length cap] w fun e w' => e = .returned (.tuple #[]) ∧ ∃ n os, w' = grow (putRow (Value.int .i64) (Sort.ahead w n) blk off (zs.mergeSort fun x y => decide (x ≤ y)).toArray) os := Any.slices_Sort_int Tryz.laysNm189 blk off cap zs w hH hblk hsz
end Go.Proofs
namespace Go.Proofs.YtmlfcpglhipjgaaGreat
open Go.RowKit Sc As Go.Sort
theorem SI_flat (zs : List Int) : SI.flat zs = zs.map (Value.int .i64) := by
 induction zs with
 | nil => rfl
 | cons z zs ih =>
   rw [show z :: zs = [z] ++ zs from rfl, Shape.flat_append, ih]
   rfl
theorem sortOwn_any (B : Nat) (p : Option Addr) (n c : Nat) (zs : List Int) (w : World) (hn : zs.length = n) (h : OwnR SI w 3 B (.slice p n c) zs) (hl : n ≤ 100000) (h0 : 0 < n) :
  Calls Tryz.prog 84 #[.slice p n c] w fun e w' => e = .returned (.tuple #[]) ∧ OwnR SI w' 3 B (.slice p n c) (zs.mergeSort fun x y => decide (x ≤ y)) ∧ Below B w w' := by
 subst hn; unfold OwnR at h; rw [SI_flat] at h
 rcases h.2 with ⟨e, e2⟩ | ⟨g, cap, cur, e, hB, hb, hc1, hc2, hcs, hct⟩
 ·omega
 cases e
 have hct' : cur.toList.take zs.length = zs.map (Value.int .i64) := by rw [← hct]; show _ = cur.toList.take (zs.length * 1); rw [Nat.mul_one]
 have hcs' : cur.size = c * 1 := hcs; have hg : g < w.heap.size := (Array.getElem?_eq_some_iff.1 hb).1; refine (Tryz.slices_Sort_int g 0 c zs w (holds_of_blockI hb hct') hg (by omega)).mono fun e w' ⟨he, n, os, hw⟩ => ⟨he, ?_, ?_⟩
 ·subst hw
  have hlen : (zs.mergeSort fun x y => decide (x ≤ y)).length = zs.length := List.length_mergeSort _; have := ownsRow_sortedI (n := n) (os := os) (base := B) (ss := zs) hlen hB hb hc1 hc2 hcs'; unfold OwnR; rw [SI_flat, hlen]; exact this
 ·subst hw
  have hgr := grownBy_sortedI (w := w) (g := g) (n := n) (os := os) (zs.mergeSort fun x y => decide (x ≤ y)).toArray; exact (brf B w).grown hgr (by omega) fun k hk => by cases hk; exact hB
theorem Re.putRow_grow0 {w : World} {g n : Nat} (d : Array Int) : putRow (Value.int .i64) (Sort.ahead w n) g 0 d = grow (putRow (Value.int .i64) (Sort.ahead w n) g 0 d) #[] := (grow_empty _).symm
theorem compactOwn_any (B : Nat) (p : Option Addr) (n c : Nat) (zs : List Int) (w : World) (hn : zs.length = n) (h : OwnR SI w 3 B (.slice p n c) zs) (hl : n ≤ 100000) (h0 : 0 < n) :
  Calls Tryz.prog 85 #[.slice p n c] w fun e w' => e = .returned (.slice p (Go.Lib.compact zs).length c) ∧ OwnR SI w' 3 B (.slice p (Go.Lib.compact zs).length c) (Go.Lib.compact zs) ∧ Below B w w' := by
 subst hn; unfold OwnR at h; rw [SI_flat] at h
 rcases h.2 with ⟨e, e2⟩ | ⟨g, cap, cur, e, hB, hb, hc1, hc2, hcs, hct⟩
 ·omega
 cases e
 have hct' : cur.toList.take zs.length = zs.map (Value.int .i64) := by rw [← hct]; show _ = cur.toList.take (zs.length * 1); rw [Nat.mul_one]
 have hcs' : cur.size = c * 1 := hcs; have hg : g < w.heap.size := (Array.getElem?_eq_some_iff.1 hb).1; have hK : (Go.Lib.compact zs).length ≤ zs.length := by
  unfold Go.Lib.compact Go.Lib.compactUpTo; rw [List.length_map]; exact Nat.le_trans (List.length_filter_le _ _) (by rw [List.length_range]; exact Nat.le_refl _)
 refine (Tryz.slices_Compact (Value.int .i64) (fun _ => rfl) (EqlAt.intD _ _ .i64) (NeqAt.intD _ _ .i64) 0 Tryz.zeroValue3 g 0 c zs.toArray w (holds_of_blockI hb hct') (by simp; omega) (by simpa using hc1)).mono fun e w' ⟨he, q, hw⟩ => ⟨he, ?_, ?_⟩
 ·obtain ⟨ts, ets⟩ : ∃ ts, Go.Lib.compact zs ++ List.replicate (zs.length - (Go.Lib.compact zs).length) 0 = ts := ⟨_, rfl⟩
  have hlt : ts.length = zs.length := by rw [← ets, lap, List.length_replicate]; omega
  have hw2 : w' = grow (putRow (Value.int .i64) (Sort.ahead w q) g 0 ts.toArray) #[] := by rw [hw, ← ets]; exact Re.putRow_grow0 _
  subst hw2; have hh := heap_sortedI (n := q) (os := #[]) ts.toArray hb; have ht := take_putCellsI cur ts (by rw [hlt, hcs']; omega); unfold OwnR; rw [SI_flat]; refine ⟨by rw [List.length_map]; show _ = _ * 1; omega, .inr ⟨g, c, _, rfl, hB, hh, by omega, hc2, by simp [putCells, hcs']; show c = c * 1; omega, ?_⟩⟩
  show List.take ((Go.Lib.compact zs).length * 1) _ = _
  rw [Nat.mul_one, show (Go.Lib.compact zs).length = min (Go.Lib.compact zs).length ts.length from by omega, ← List.take_take, ht, ← ets, List.map_append]; rw [List.take_append_of_le_length (by rw [List.length_map]; omega), List.take_of_length_le (by rw [List.length_map]; omega)]
 ·rw [hw, Re.putRow_grow0]
  have hgr := grownBy_sortedI (w := w) (g := g) (n := q) (os := #[]) (Go.Lib.compactUpTo zs.toArray zs.toArray.size ++ List.replicate (zs.toArray.size - (Go.Lib.compactUpTo zs.toArray zs.toArray.size).length) 0).toArray; exact (brf B w).grown hgr (by omega) fun k hk => by cases hk; exact hB
end Go.Proofs.YtmlfcpglhipjgaaGreat
namespace Go.Proofs.YtmlfcpglhipjgaaGreat
open Go.RowKit Sc As Go.Sort Go.Shelf
theorem sort_none (p : Option Addr) (c : Nat) (w : World) : Calls Tryz.prog 84 #[.slice p 0 c] w fun e w' => e = .returned (.tuple #[]) ∧ w' = w :=
 calls_of_every_depth fun D => AnyS.slices_Sort_int_none_in Tryz.laysNm189 D p c w
theorem compact_none (p : Option Addr) (c : Nat) (w : World) : Calls Tryz.prog 85 #[.slice p 0 c] w fun e w' => e = .returned (.slice p 0 c) ∧ w' = w := by
 go_enter Tryz.func85, Tryz.ntmps85
 go_wp2
 go_ret
 exact ⟨rfl, rfl⟩
end Go.Proofs.YtmlfcpglhipjgaaGreat
namespace Go.Proofs.YtmlfcpglhipjgaaGreat
open Go.RowKit Sc As
namespace Re
def others (A : List Awd) (farm : Int) : List Awd := (A.filter fun a => a.farm != farm).map fun a => { a with due := 0 }
theorem others_take {A : List Awd} {farm : Int} {k : Nat} (hk : k < A.length) : others (A.take (k + 1)) farm = others (A.take k) farm ++ (if A[k].farm = farm then [] else [{ A[k] with due := 0 }]) := by
 unfold others; rw [tsg hk, List.filter_append, List.map_append]
 congr 1
 by_cases h : A[k].farm = farm
 ·rw [if_pos h]; simp [h]
 ·rw [if_neg h]; simp [h]
theorem others_len (A : List Awd) (farm : Int) : (others A farm).length ≤ A.length := by
 unfold others; rw [List.length_map]; exact List.length_filter_le _ _
end Re
theorem others_any (fp : Option Addr) (fn fc : Nat) (num den : Int) (dv : Bool) (p : Option Addr) (A : List Awd) (c : Nat) (farm : Int) (w : World) (h : Recs SA w p A) (hl : A.length ≤ 1000) :
  Calls Tryz.prog 126 #[.agg #[.slice fp fn fc, .slice p A.length c, .int .i64 num, .int .i64 den, .bool dv], .int .i64 farm] w (RowG (Re.others A farm) w) := by
 have H := mh h; have hlen := h.len; have HB0 := mh ((brf w.heap.size w).alloc mle (.cells #[.slice fp fn fc, .slice p A.length c, .int .i64 num, .int .i64 den, .bool dv] 140)); clear h
 go_enter Tryz.func126, Tryz.ntmps126
 go_wp2
 generalize w.alloc (.cells #[.slice fp fn fc, .slice p A.length c, .int .i64 num, .int .i64 den, .bool dv] 140) = w0 at *
 go_loopw [5, 11] (fun v i wr => ∃ k : Nat, k ≤ A.length ∧ i = .int .i64 k ∧ OwnR SA wr 60 w.heap.size v (Re.others (A.take k) farm) ∧ Below w.heap.size w wr) (fun _ i _ => A.length - (intOf i).toNat)
 case atStart => exact ⟨0, Nat.zero_le _, rfl, OwnR.nil _ _ _, HB0.out⟩
 case round =>
  obtain ⟨wo, rfl⟩ : ∃ wo : World, wo = wr := ⟨_, rfl⟩; obtain ⟨k, hk, rfl, hown, hb⟩ := hrel; have HO := mh hown; have HB := mh hb; have hk0 : (0 : Int) ≤ (k : Int) := inn _
  by_cases hlt : k < A.length
  ·have hk1 : (k : Int) < (A.length : Int) := by omega
   obtain ⟨b, off, e, hbl, ⟨c0, c1, c2, c3, c4, c5, c6, c7, c8⟩⟩ := SA_at (H.out.below hb) hlt
   cases e
   have ST := Re.others_take (farm := farm) hlt; obtain ⟨⟨a1, a2, a3, a4, a5, a6, a7, a8, a9⟩, ea⟩ : ∃ a, A[k] = a := ⟨_, rfl⟩; rw [ea] at c0 c1 c2 c3 c4 c5 c6 c7 c8 ST; simp only at c0 c1 c2 c3 c4 c5 c6 c7 c8 ST
   have HCL := mh (show (Re.others (A.take k) farm).length < 1073741824 by
    have := Re.others_len (A.take k) farm; rw [List.length_take] at this
    omega)
   have HSZ := mh hb.size
   by_cases hf : a1 = farm
   ·have STH := mh (show Re.others (A.take (k + 1)) farm = Re.others (A.take k) farm from by rw [ST, if_pos hf, List.append_nil])
    have hfb : (a1 != farm) = false := by simpa using hf
    have hba := (brf wo.heap.size wo).alloc mle (.cells #[.int .i64 a1, .int .i64 a2, .int .i64 a3, .int .i64 a4, .int .i64 a5, .int .i64 a6, .int .i64 a7, .int .i64 a8, .int .i64 a9] 60); have HOA := mh (HO.out.below hba); have HBA := mh (HB.out.trans (hba.mono HB.out.size)); clear ST ea hb hown hf hba
    go_wp2_with fail
    go_roundw
    case rel => exact ⟨k + 1, by omega, by go_num, by rw [STH.out]; exact HOA.out, HBA.out⟩
    case measure => simp [intOf]; omega
   ·have STH := mh (show Re.others (A.take (k + 1)) farm = Re.others (A.take k) farm ++ [⟨a1, a2, a3, a4, a5, a6, a7, a8, 0⟩] from by rw [ST, if_neg hf])
    have hfb : (a1 != farm) = true := by simpa using hf
    have hba := (brf wo.heap.size wo).alloc mle (.cells #[.int .i64 a1, .int .i64 a2, .int .i64 a3, .int .i64 a4, .int .i64 a5, .int .i64 a6, .int .i64 a7, .int .i64 a8, .int .i64 0] 60); have HOA := mh (HO.out.below hba); have HBA := mh (HB.out.trans (hba.mono HB.out.size)); have HSA := mh (Nat.le_trans HSZ.out hba.size); clear ST ea hb hown hf hba
    go_wp2_with (first | (at_builtin; (refine OwnR.append el_awd rfl (.tmp 20) (.tmp 22) rfl w.heap.size _ (Re.others (A.take k) farm) ⟨a1, a2, a3, a4, a5, a6, a7, a8, 0⟩ #[.int .i64 a1, .int .i64 a2, .int .i64 a3, .int .i64 a4, .int .i64 a5, .int .i64 a6, .int .i64 a7, .int .i64 a8, .int .i64 0] rfl HOA.out rfl (by simp [Act.eval]) HSA.out HCL.out (by decide) ?_); intro v5 w5 hO5 hap5; have HO5 := mh hO5; have HB5 := mh (HBA.out.trans hap5.below); clear hO5 hap5) | fail)
    go_roundw
    case rel => exact ⟨k + 1, by omega, by go_num, by rw [STH.out]; exact HO5.out, HB5.out⟩
    case measure => simp [intOf]; omega
  ·obtain rfl : k = A.length := by omega
   rw [List.take_length] at HO; obtain ⟨p4, c4, rfl, -, -, -, -, hr⟩ := HO.out.cut rfl; have HR := mh hr; clear hb hown hr
   go_wp2_with fail
   go_ret
   exact ⟨p4, c4, rfl, HR.out, HB.out⟩
end Go.Proofs.YtmlfcpglhipjgaaGreat
