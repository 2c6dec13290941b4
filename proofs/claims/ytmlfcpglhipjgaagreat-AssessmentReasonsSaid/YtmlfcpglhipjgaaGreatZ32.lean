/-
  PACKED (pack8.py): what is needed of the texts Fb.
-/
import Derived.Test.YtmlfcpglhipjgaaGreatZ0
import Derived.Test.YtmlfcpglhipjgaaGreatZ1
import Derived.Test.YtmlfcpglhipjgaaGreatZ4
import Derived.Test.YtmlfcpglhipjgaaGreatZ6
import Derived.Test.YtmlfcpglhipjgaaGreatZ7
import Derived.Test.YtmlfcpglhipjgaaGreatZ9
import Derived.Test.YtmlfcpglhipjgaaGreatZ13
import Derived.Test.YtmlfcpglhipjgaaGreatZ15
import Derived.Test.YtmlfcpglhipjgaaGreatZ17
import Derived.Test.YtmlfcpglhipjgaaGreatZ19
import Derived.Test.YtmlfcpglhipjgaaGreatZ26
import Derived.Test.YtmlfcpglhipjgaaGreatZ29
import Derived.Test.YtmlfcpglhipjgaaGreatZ30
namespace Go.Proofs.YtmlfcpglhipjgaaGreat.Sc
end Go.Proofs.YtmlfcpglhipjgaaGreat.Sc
namespace Go.Proofs.YtmlfcpglhipjgaaGreat.As
end Go.Proofs.YtmlfcpglhipjgaaGreat.As
namespace Go.Proofs.YtmlfcpglhipjgaaGreat
open Go.RowKit Sc As
def As.namedB (R : List Rsn) (s : Int) : Bool := R.any fun r => r.scheme == s
theorem As.namedB_snoc (R : List Rsn) (r : Rsn) (s : Int) : namedB (R ++ [r]) s = (namedB R s || (r.scheme == s)) := by unfold namedB; rw [List.any_append]; simp
theorem As.named_iff {l : YLaw} {f : FarmF} (hl : YOk l) (hf : FarmOk l f) (he : farmErr l f = 0) {x : Awd} (hx : x ∈ farmAw l f) : namedB (farmRs l f) x.scheme = decide (x.det < x.decl) := by
 obtain ⟨i, hi, rfl⟩ := List.mem_iff_getElem.1 hx
 have hi' : i < (awards0 l f).length := by rw [← farmAw_len he]; exact hi
 rw [farmAw_at he i hi hi']
 have h := reason_iff hl hf (List.getElem_mem hi')
 have er : farmRs l f = reasons0 l f := by unfold farmRs; rw [if_neg (by rw [he]; simp)]
 rw [er, Bool.eq_iff_iff, decide_eq_true_eq]
 show namedB (reasons0 l f) (awards0 l f)[i].scheme = true ↔ (awards0 l f)[i].det < (awards0 l f)[i].decl
 rw [← h]
 unfold namedB
 rw [List.any_eq_true]
 constructor
 ·rintro ⟨r, hr, e⟩; exact ⟨r, hr, by simpa using e⟩
 ·rintro ⟨r, hr, e⟩; exact ⟨r, hr, by simpa using e⟩
set_option maxRecDepth 100000 in
set_option maxHeartbeats 8000000 in
theorem assessmentReasons_walk (a : Option Addr) (len cap : Nat) (z : List Int) (w : World) (w0 : IsRow .i64 w a len cap z) :
  Calls Tryz.prog 8 #[.slice a len cap] w fun e w' => e = .returned (.bool true) ∧ Below w.heap.size w w' := by
 obtain ⟨hIr, hLr⟩ := w0.ints
 have NW := Lib.hid (new_any a len cap z w w0)
 obtain ⟨l, el⟩ : ∃ l, (z.take len).take 400 = l := ⟨_, rfl⟩
 rw [el] at NW
 clear el hIr hLr w0
 go_enter Tryz.func8, Tryz.ntmps8
 go_wp2_with fail
 (with_reducible refine Calls.mono NW.out ?_)
 rintro e w1 ⟨rfl, ht1, hb1⟩
 have LW := Lib.hid (law2_any w.heap.size l 0 w1 ht1)
 have HT1 := Lib.hid ht1.lt
 have HB1 := Lib.hid hb1
 clear NW ht1 hb1
 go_wp2_with fail
 (with_reducible refine Calls.mono LW.out ?_)
 rintro e w2 ⟨d, r, Y, q, rfl, hy, hok, hlen, hdue, hsm, hp⟩
 have O2 := Lib.hid (Opn.init (T := 29) HB1.out HT1.out hy hok hlen hdue hsm hp rfl)
 clear hy hok hlen hdue hsm hp LW
 obtain ⟨sp, sn, sc, tp, tn, tc, ldue, llast, lmille, gp, gn, gc, cp, ev, un, wd⟩ := r
 simp only [yCells] at O2 ⊢
 obtain ⟨g, eg⟩ : ∃ g, w2.heap.size = g := ⟨_, rfl⟩
 rw [eg] at O2
 have FM := Lib.hid (O2.out.farms 3 (by omega))
 simp only [yCells] at FM
 go_wp2_with fail
 clear eg
 generalize w2.alloc (.cells #[.slice sp sn sc, .slice tp tn tc, .int .i64 ldue, .int .i64 llast, .int .i64 lmille, .slice gp gn gc, .int .i64 cp, .int .i64 ev, .int .i64 un, .int .i64 wd] 29) = w3 at *
 (with_reducible refine Calls.mono FM.out ?_)
 rintro e w4 ⟨p, F, capF, q4, rfl, hcF, hO4, hF4, -⟩
 have O4 := Lib.hid hO4
 have F4 := Lib.hid hF4
 clear FM hO4 hF4 O2 hcF
 have hlF := F4.out.len
 go_wp2_with fail
 go_loopw [23] (fun i W => ∃ k : Nat, k ≤ F.length ∧ i = .int .i64 k ∧ Below w4.heap.size w4 W) (fun i _ => F.length - (intOf i).toNat)
 case atStart => exact ⟨0, Nat.zero_le _, rfl, Below.refl _ _⟩
 case round =>
  obtain ⟨wo, rfl⟩ : ∃ wo : World, wo = wr := ⟨_, rfl⟩
  obtain ⟨k, hk, rfl, hb⟩ := hrel
  have HB := Lib.hid hb
  have OO := Lib.hid (O4.out.below hb)
  have hk0 : (0 : Int) ≤ (k : Int) := Int.natCast_nonneg _
  by_cases hlt : k < F.length
  ·have hk1 : (k : Int) < (F.length : Int) := by omega
   obtain ⟨b, off, ⟨fa, da, lp, ln, lc⟩, rfl, hbl, ⟨c0, c1, c2⟩, hv⟩ := (F4.out.below hb).at_.at hlt
   simp only at c0 c1 c2
   have hba := (Below.refl wo.heap.size wo).alloc (Nat.le_refl _) (.cells #[.int .i64 fa, .int .i64 da, .slice lp ln lc] 47)
   have OA := Lib.hid (OO.out.below hba)
   have HBA := Lib.hid (HB.out.trans (hba.mono HB.out.size))
   have FR := Lib.hid (frm34_any d _ Y ⟨fa, da, lp, ln, lc⟩ F[k] (wo.alloc (.cells #[.int .i64 fa, .int .i64 da, .slice lp ln lc] 47)) OA.out.yv (hv.below hba))
   simp only [yCells, fCells] at FR
   have hfm := List.getElem_mem hlt
   have FEC := Lib.hid (farmErr_cases F4.out.ok hfm)
   have FOK := Lib.hid (F4.out.ok.farm _ hfm)
   obtain ⟨f, ef⟩ : ∃ f, F[k] = f := ⟨_, rfl⟩
   rw [ef] at FR FEC FOK
   unfold FrG at FR
   have NI := Lib.hid (fun (h : farmErr Y f = 0) (x : Awd) (hx : x ∈ farmAw Y f) => named_iff (l := Y) (f := f) F4.out.ok.law FOK.out h hx)
   have NLE := Lib.hid (farmAw_le Y f)
   obtain ⟨E, eE⟩ : ∃ E, farmErr Y f = E := ⟨_, rfl⟩
   obtain ⟨A, eA⟩ : ∃ A, farmAw Y f = A := ⟨_, rfl⟩
   obtain ⟨R, eR⟩ : ∃ R, farmRs Y f = R := ⟨_, rfl⟩
   rw [eE] at FEC
   simp only [eE, eA, eR] at FR NI
   have VB := OA.out.vb
   simp only [yCells] at VB
   have y0 := VB.cell 0; have y1 := VB.cell 1; have y2 := VB.cell 2; have y3 := VB.cell 3; have y4 := VB.cell 4; have y5 := VB.cell 5; have y6 := VB.cell 6; have y7 := VB.cell 7; have y8 := VB.cell 8; have y9 := VB.cell 9;
   clear VB
   clear hb hba hv ef hbl eE eA eR hfm
   go_wp2_with fail
   (with_reducible refine Calls.mono FR.out ?_)
   rintro e w5 ⟨va, vr, rfl, hoa, hor, hb5⟩
   obtain ⟨pa, ca, rfl, -, -, -, -, hra⟩ := hoa.cut rfl
   obtain ⟨pr, cr, rfl, -, -, -, -, hrr⟩ := hor.cut rfl
   have RA := Lib.hid hra
   have RR := Lib.hid hrr
   have HB5 := Lib.hid (HBA.out.trans (hb5.mono HBA.out.size))
   have O5 := Lib.hid (OA.out.below hb5)
   have LA := Lib.hid hra.len
   have LR := Lib.hid hrr.len
   clear hoa hor hra hrr hb5 FR y0 y1 y2 y3 y4 y5 y6 y7 y8 y9
   rcases FEC.out with hE | hE
   rotate_left
   ·subst hE
    go_wp2_with (first | (go_at_call 15; (with_reducible refine Calls.mono (awake34_any _) ?_); rintro e w9 ⟨rfl, hb9⟩; have HB9 := Lib.hid (bnext O5.out.low O5.out.low.size hb9); clear hb9) | fail)
    go_ret
    exact ⟨rfl, HB9.out⟩
   subst hE
   have NIA := Lib.hid (fun x hx => NI.out rfl x hx)
   clear FEC NI
   go_wp2_with fail
   go_loopw [43] (fun i W => ∃ m : Nat, m ≤ A.length ∧ i = .int .i64 m ∧ Below w5.heap.size w5 W) (fun i _ => A.length - (intOf i).toNat)
   case atStart => exact ⟨0, Nat.zero_le _, rfl, Below.refl _ _⟩
   case round =>
    obtain ⟨wp, rfl⟩ : ∃ wp : World, wp = wr := ⟨_, rfl⟩
    obtain ⟨m, hm, rfl, hb2⟩ := hrel
    have HB2 := Lib.hid hb2
    have hm0 : (0 : Int) ≤ (m : Int) := Int.natCast_nonneg _
    have hAl := LA.out
    by_cases hltm : m < A.length
    ·have hm1 : (m : Int) < (A.length : Int) := by omega
     obtain ⟨b2, off2, rfl, hbl2, ⟨a0, a1, a2, a3, a4, a5, a6, a7, a8⟩⟩ := SA_at (RA.out.below hb2) hltm
     have NX := Lib.hid (NIA.out _ (List.getElem_mem hltm))
     obtain ⟨x, ex⟩ : ∃ x, A[m] = x := ⟨_, rfl⟩
     rw [ex] at a0 a1 a2 a3 a4 a5 a6 a7 a8 NX
     have hbx := (Below.refl wp.heap.size wp).alloc (Nat.le_refl _) (.cells #[.int .i64 x.farm, .int .i64 x.scheme, .int .i64 x.decl, .int .i64 x.det, .int .i64 x.paid, .int .i64 x.rated, .int .i64 x.timely, .int .i64 x.capped, .int .i64 x.due] 60)
     have HBX := Lib.hid (hb2.trans (hbx.mono hb2.size))
     have BX := Lib.hid (Blk.new wp #[.int .i64 x.farm, .int .i64 x.scheme, .int .i64 x.decl, .int .i64 x.det, .int .i64 x.paid, .int .i64 x.rated, .int .i64 x.timely, .int .i64 x.capped, .int .i64 x.due] 60)
     clear hb2 hbx ex hbl2
     obtain ⟨gx, egx⟩ : ∃ g, wp.heap.size = g := ⟨_, rfl⟩
     rw [egx] at BX
     go_wp2_with fail
     clear egx a0 a1 a2 a3 a4 a5 a6 a7 a8
     generalize wp.alloc (.cells #[.int .i64 x.farm, .int .i64 x.scheme, .int .i64 x.decl, .int .i64 x.det, .int .i64 x.paid, .int .i64 x.rated, .int .i64 x.timely, .int .i64 x.capped, .int .i64 x.due] 60) = w6 at *
     go_loopw [12, 49] (fun nv i W => ∃ j : Nat, j ≤ R.length ∧ i = .int .i64 j ∧ nv = .bool (namedB (R.take j) x.scheme) ∧ Below w6.heap.size w6 W) (fun _ i _ => R.length - (intOf i).toNat)
     case atStart => exact ⟨0, Nat.zero_le _, rfl, rfl, Below.refl _ _⟩
     case round =>
      obtain ⟨wq, rfl⟩ : ∃ wq : World, wq = wr := ⟨_, rfl⟩
      obtain ⟨j, hj, rfl, rfl, hb3⟩ := hrel
      have HB3 := Lib.hid hb3
      have hj0 : (0 : Int) ≤ (j : Int) := Int.natCast_nonneg _
      have hRl := LR.out
      have BX3 := Lib.hid (BX.out.below hb3)
      by_cases hltj : j < R.length
      ·have hj1 : (j : Int) < (R.length : Int) := by omega
       obtain ⟨b3, off3, rfl, hbl3, r0, r1, r2⟩ := SRn_at (RR.out.below (HBX.out.trans (hb3.mono HBX.out.size))) hltj
       have ST := Lib.hid (show namedB (R.take (j + 1)) x.scheme = (namedB (R.take j) x.scheme || (R[j].scheme == x.scheme)) from by rw [List.take_succ_eq_append_getElem hltj, namedB_snoc])
       obtain ⟨y, ey⟩ : ∃ y, R[j] = y := ⟨_, rfl⟩
       rw [ey] at r0 r1 r2 ST
       have hby := (Below.refl wq.heap.size wq).alloc (Nat.le_refl _) (.cells #[.int .i64 y.line, .int .i64 y.scheme, .int .i64 y.kind] 70)
       have HB4 := Lib.hid (hb3.trans (hby.mono hb3.size))
       have BX4 := Lib.hid (BX3.out.below hby)
       have x1 := BX4.out.cell 1
       obtain ⟨nb, enb⟩ : ∃ c, namedB (R.take j) x.scheme = c := ⟨_, rfl⟩
       rw [enb] at ST ⊢
       clear hb3 hby ey hbl3 enb
       cases nb
       ·go_wp2_with fail
        go_roundw
        case rel => exact ⟨j + 1, by omega, by go_num, by rw [ST.out]; rfl, HB4.out⟩
        case measure => simp [intOf]; omega
       ·go_wp2_with fail
        go_roundw
        case rel => exact ⟨j + 1, by omega, by go_num, by rw [ST.out]; rfl, HB4.out⟩
        case measure => simp [intOf]; omega
      ·obtain rfl : j = R.length := by omega
       rw [List.take_length, NX.out]
       have x2 := BX3.out.cell 2
       have x3 := BX3.out.cell 3
       have HB7 := Lib.hid (HBX.out.trans (hb3.mono HBX.out.size))
       clear hb3 hj hltj hj0
       have nn : (decide (x.det < x.decl) != decide (x.det < x.decl)) = false := by simp
       go_wp2_with fail
       go_roundw
       case rel => exact ⟨m + 1, by omega, by go_num, HB7.out⟩
       case measure => simp [intOf]; omega
    ·obtain rfl : m = A.length := by omega
     have HB8 := Lib.hid (HB5.out.trans (hb2.mono HB5.out.size))
     clear hb2 hm hltm hm0 hAl
     go_wp2_with fail
     go_roundw
     case rel => exact ⟨k + 1, by omega, by go_num, HB8.out⟩
     case measure => simp [intOf]; omega
  ·obtain rfl : k = F.length := by omega
   clear hb hk hlt hk0
   go_wp2_with (first | (go_at_call 15; (with_reducible refine Calls.mono (awake34_any _) ?_); rintro e w9 ⟨rfl, hb9⟩; have HB9 := Lib.hid (bnext OO.out.low OO.out.low.size hb9); clear hb9) | fail)
   go_ret
   exact ⟨rfl, HB9.out⟩
end Go.Proofs.YtmlfcpglhipjgaaGreat
