/-
  PACKED (pack8.py): what is needed of the texts Fd.
-/
import Derived.Test.YtmlfcpglhipjgaaGreatZ0
import Derived.Test.YtmlfcpglhipjgaaGreatZ1
import Derived.Test.YtmlfcpglhipjgaaGreatZ4
import Derived.Test.YtmlfcpglhipjgaaGreatZ6
import Derived.Test.YtmlfcpglhipjgaaGreatZ7
import Derived.Test.YtmlfcpglhipjgaaGreatZ9
import Derived.Test.YtmlfcpglhipjgaaGreatZ13
import Derived.Test.YtmlfcpglhipjgaaGreatZ15
import Derived.Test.YtmlfcpglhipjgaaGreatZ17
import Derived.Test.YtmlfcpglhipjgaaGreatZ19
import Derived.Test.YtmlfcpglhipjgaaGreatZ26
import Derived.Test.YtmlfcpglhipjgaaGreatZ29
import Derived.Test.YtmlfcpglhipjgaaGreatZ30
import Derived.Test.YtmlfcpglhipjgaaGreatZ31
namespace Go.Proofs.YtmlfcpglhipjgaaGreat.Sc
end Go.Proofs.YtmlfcpglhipjgaaGreat.Sc
namespace Go.Proofs.YtmlfcpglhipjgaaGreat.As
end Go.Proofs.YtmlfcpglhipjgaaGreat.As
namespace Go.Proofs.YtmlfcpglhipjgaaGreat
open Go.RowKit Sc As
theorem As.FmOk.awards {Y : YLaw} {F : List FarmF} (hl : Y.sch.length ≤ 3) (hF : F.length ≤ 4) : (allAw Y F).length ≤ 64 := by
 have h1 := allAw_le Y F
 have h2 : F.length * Y.sch.length ≤ 4 * 3 := Nat.mul_le_mul hF hl
 omega
theorem elem_farms : Tryz.prog.elem 30 = 47 := by kernel_rfl
theorem cells_farm : Tryz.prog.cellsOf 47 = 3 := by kernel_rfl
theorem run_farms_to (b off n c k : Nat) (hk : k ≤ c) : ∀ W, (Instr.slice 30 (.slice (some ⟨b, off, none⟩) n c) none (some (.int .i64 (k : Int))) none).run Tryz.prog W = .ok (.slice (some ⟨b, off, none⟩) k c) W := fun W => by
 have hs : (sizeOf (Tryz.prog.elem 30)).run Tryz.prog W = .ok 3 W := by
  obtain ⟨i0, _, h1, _⟩ := el_farm.ex
  rw [elem_farms, run_sizeOf W h1, cells_farm]
 rw [run_slice_h (P := Tryz.prog) W 30 (some ⟨b, off, none⟩) n c (by rw [elem_farms]; exact el_farm.ts) .i64 (k : Int) (by omega) (by omega), hs]
 show Result.ok (Value.slice (if c = 0 then some ⟨b, off, none⟩ else (some (⟨b, off, none⟩ : Addr)).map (·.add (0 * 3))) (k - 0) (c - 0)) W = _
 rw [Option.map_some, Go.WideShapes.add_plain, Nat.zero_mul, Nat.add_zero, ite_self, Nat.sub_zero, Nat.sub_zero]
set_option maxRecDepth 100000 in
set_option maxHeartbeats 8000000 in
theorem assessmentAlone_walk (a : Option Addr) (len cap : Nat) (z : List Int) (w : World) (w0 : IsRow .i64 w a len cap z) :
  Calls Tryz.prog 7 #[.slice a len cap] w fun e w' => e = .returned (.bool true) ∧ Below w.heap.size w w' := by
 obtain ⟨hIr, hLr⟩ := w0.ints
 have NW := Lib.hid (new_any a len cap z w w0)
 obtain ⟨l, el⟩ : ∃ l, (z.take len).take 400 = l := ⟨_, rfl⟩
 rw [el] at NW
 clear el hIr hLr w0
 go_enter Tryz.func7, Tryz.ntmps7
 go_wp2_with fail
 (with_reducible refine Calls.mono NW.out ?_)
 rintro e w1 ⟨rfl, ht1, hb1⟩
 have LW := Lib.hid (law2_any w.heap.size l 0 w1 ht1)
 have HT1 := Lib.hid ht1.lt
 have HB1 := Lib.hid hb1
 clear NW ht1 hb1
 go_wp2_with fail
 (with_reducible refine Calls.mono LW.out ?_)
 rintro e w2 ⟨d, r, Y, q, rfl, hy, hok, hlen, hdue, hsm, hp⟩
 have O2 := Lib.hid (Opn.init (T := 29) HB1.out HT1.out hy hok hlen hdue hsm hp rfl)
 clear hy hok hlen hdue hsm hp LW
 obtain ⟨sp, sn, sc, tp, tn, tc, ldue, llast, lmille, gp, gn, gc, cp, ev, un, wd⟩ := r
 simp only [yCells] at O2 ⊢
 obtain ⟨g, eg⟩ : ∃ g, w2.heap.size = g := ⟨_, rfl⟩
 rw [eg] at O2
 have FM := Lib.hid (O2.out.farms 3 (by omega))
 simp only [yCells] at FM
 go_wp2_with fail
 clear eg
 generalize w2.alloc (.cells #[.slice sp sn sc, .slice tp tn tc, .int .i64 ldue, .int .i64 llast, .int .i64 lmille, .slice gp gn gc, .int .i64 cp, .int .i64 ev, .int .i64 un, .int .i64 wd] 29) = w3 at *
 (with_reducible refine Calls.mono FM.out ?_)
 rintro e w4 ⟨p, F, capF, q4, rfl, hcF, hO4, hF4, -⟩
 have O4 := Lib.hid hO4
 have F4 := Lib.hid hF4
 have HCF := Lib.hid hcF
 clear hcF
 clear FM hO4 hF4 O2
 have hlF := F4.out.len
 have HLF := Lib.hid hlF
 rcases Nat.eq_zero_or_pos F.length with hz | hz
 ·obtain rfl : F = [] := List.length_eq_zero_iff.1 hz
  clear hz
  go_wp2_with (first | (go_at_call 15; (with_reducible refine Calls.mono (awake34_any _) ?_); rintro e w9 ⟨rfl, hb9⟩; have HB9 := Lib.hid (bnext O4.out.low O4.out.low.size hb9); clear hb9) | fail)
  go_ret
  exact ⟨rfl, HB9.out⟩
 obtain ⟨m, en⟩ : ∃ m, F.length = m + 1 := ⟨F.length - 1, by omega⟩
 have hmF : m < F.length := by omega
 have ETK := Lib.hid (show F.take m ++ [F[m]] = F from by rw [← List.take_succ_eq_append_getElem hmF, ← en, List.take_length])
 have FOG := Lib.hid (F4.out.ok)
 have HTL := Lib.hid (show (F.take m).length = m from by rw [List.length_take]; omega)
 have AL := Lib.hid (show _ from alone (l := Y) (G := F.take m) (f := F[m]) (ETK.out.symm ▸ F4.out.ok) (FmOk.awards O4.out.len (by rw [ETK.out]; omega)))
 rw [ETK.out] at AL
 have AS := Lib.hid (assess34_any d _ Y p F capF w4 O4.out.yv F4.out.at_)
 have AG := Lib.hid (fun (W : World) (hb : Below w4.heap.size w4 W) => show Calls Tryz.prog 26 #[.agg (yCells ⟨sp, sn, sc, tp, tn, tc, ldue, llast, lmille, gp, gn, gc, cp, ev, un, wd⟩).toArray, .slice p m capF] W (AsG Y (F.take m) W) from by
  have := assess34_any d _ Y p (F.take m) capF W (O4.out.yv.below hb) ((F4.out.at_.below hb).take m)
  rw [HTL.out] at this
  exact this)
 simp only [yCells] at AS AG
 unfold AsG at AS AG
 have FL := Lib.hid (fun h => F4.out.falls h)
 have FLG := Lib.hid (fun h => As.falls (l := Y) (F := F.take m) (FOk.init (ETK.out.symm ▸ FOG.out)) h)
 obtain ⟨E, eE⟩ : ∃ E, assErr Y F = E := ⟨_, rfl⟩
 obtain ⟨E2, eE2⟩ : ∃ E, assErr Y (F.take m) = E := ⟨_, rfl⟩
 obtain ⟨A, eA⟩ : ∃ A, assess Y F = A := ⟨_, rfl⟩
 obtain ⟨B, eB⟩ : ∃ A, assess Y (F.take m) = A := ⟨_, rfl⟩
 rw [eE, eA] at FL
 rw [eE2, eB] at FLG
 rw [eE, eE2, eA, eB] at AL
 simp only [eE, eE2, eA, eB] at AS AG
 obtain ⟨b0, off0, r0, rfl, -, -, -⟩ := F4.out.at_.at hmF
 have hcf := HCF.out
 rw [en] at AS hcf hlF ⊢
 have hm0 : (0 : Int) ≤ (m : Int) := Int.natCast_nonneg _
 have hm64 : (m : Int) ≤ 4 := by omega
 have hmc : m ≤ capF := by omega
 have hwm : IntKind.i64.wrap (m : Int) = (m : Int) := by rw [IntKind.wrap_i64]; omega
 have hmcI : (m : Int) ≤ (capF : Int) := by omega
 have RQ := run_farms_to b0 off0 (m + 1) capF m hmc
 have hnb : ((m : Int) + 1 == 0) = false := by rw [beq_eq_false_iff_ne]; omega
 have hnb2 : (((m + 1 : Nat) : Int) == 0) = false := by rw [beq_eq_false_iff_ne]; omega
 clear eE eE2 eA eB hz hlF hmF FOG ETK en
 have VB := O4.out.vb
 simp only [yCells] at VB
 have y0 := VB.cell 0; have y1 := VB.cell 1; have y2 := VB.cell 2; have y3 := VB.cell 3; have y4 := VB.cell 4; have y5 := VB.cell 5; have y6 := VB.cell 6; have y7 := VB.cell 7; have y8 := VB.cell 8; have y9 := VB.cell 9;
 clear VB
 go_wp2_with fail
 (with_reducible refine Calls.mono AS.out ?_)
 rintro e w5 ⟨va, rfl, hoa, hb5⟩
 have O5 := Lib.hid (O4.out.below hb5)
 have OA5 := Lib.hid hoa
 have HB5 := Lib.hid hb5
 clear hoa hb5 AS y0 y1 y2 y3 y4 y5 y6 y7 y8 y9
 have VB5 := O5.out.vb.below (Below.refl _ _).drew
 simp only [yCells] at VB5
 have KD := Lib.hid (show w5.drew.cell? ⟨g, 0, none⟩ = some (.slice sp sn sc) ∧ w5.drew.cell? ⟨g, 1, none⟩ = some (.slice tp tn tc) ∧ w5.drew.cell? ⟨g, 2, none⟩ = some (.int .i64 ldue) ∧ w5.drew.cell? ⟨g, 3, none⟩ = some (.int .i64 llast) ∧ w5.drew.cell? ⟨g, 4, none⟩ = some (.int .i64 lmille) ∧ w5.drew.cell? ⟨g, 5, none⟩ = some (.slice gp gn gc) ∧ w5.drew.cell? ⟨g, 6, none⟩ = some (.int .i64 cp) ∧ w5.drew.cell? ⟨g, 7, none⟩ = some (.int .i64 ev) ∧ w5.drew.cell? ⟨g, 8, none⟩ = some (.int .i64 un) ∧ w5.drew.cell? ⟨g, 9, none⟩ = some (.int .i64 wd) from ⟨VB5.cell 0, VB5.cell 1, VB5.cell 2, VB5.cell 3, VB5.cell 4, VB5.cell 5, VB5.cell 6, VB5.cell 7, VB5.cell 8, VB5.cell 9⟩)
 clear VB5
 go_wp2_with fail
 go_region_held3 (fun w' => w'.cell? ⟨g, 0, none⟩ = some (.slice sp sn sc) ∧ w'.cell? ⟨g, 1, none⟩ = some (.slice tp tn tc) ∧ w'.cell? ⟨g, 2, none⟩ = some (.int .i64 ldue) ∧ w'.cell? ⟨g, 3, none⟩ = some (.int .i64 llast) ∧ w'.cell? ⟨g, 4, none⟩ = some (.int .i64 lmille) ∧ w'.cell? ⟨g, 5, none⟩ = some (.slice gp gn gc) ∧ w'.cell? ⟨g, 6, none⟩ = some (.int .i64 cp) ∧ w'.cell? ⟨g, 7, none⟩ = some (.int .i64 ev) ∧ w'.cell? ⟨g, 8, none⟩ = some (.int .i64 un) ∧ w'.cell? ⟨g, 9, none⟩ = some (.int .i64 wd)) (first | with_reducible exact KD.out | with_reducible exact K6.out | go_keep) (first | (go_at_call 26; (with_reducible refine Calls.mono (AG.out _ (HB5.out.trans ((Below.refl _ _).drew.mono HB5.out.size))) ?_); rintro e w6 ⟨vb, rfl, hob, hb6⟩; have O6 := Lib.hid ((O5.out.below (Below.refl _ _).drew).below hb6); have OA6 := Lib.hid ((OA5.out.below (Below.refl _ _).drew).below hb6); have OB6 := Lib.hid hob; have VB6 := O6.out.vb; simp only [yCells] at VB6; have K6 := Lib.hid (show w6.cell? ⟨g, 0, none⟩ = some (.slice sp sn sc) ∧ w6.cell? ⟨g, 1, none⟩ = some (.slice tp tn tc) ∧ w6.cell? ⟨g, 2, none⟩ = some (.int .i64 ldue) ∧ w6.cell? ⟨g, 3, none⟩ = some (.int .i64 llast) ∧ w6.cell? ⟨g, 4, none⟩ = some (.int .i64 lmille) ∧ w6.cell? ⟨g, 5, none⟩ = some (.slice gp gn gc) ∧ w6.cell? ⟨g, 6, none⟩ = some (.int .i64 cp) ∧ w6.cell? ⟨g, 7, none⟩ = some (.int .i64 ev) ∧ w6.cell? ⟨g, 8, none⟩ = some (.int .i64 un) ∧ w6.cell? ⟨g, 9, none⟩ = some (.int .i64 wd) from ⟨VB6.cell 0, VB6.cell 1, VB6.cell 2, VB6.cell 3, VB6.cell 4, VB6.cell 5, VB6.cell 6, VB6.cell 7, VB6.cell 8, VB6.cell 9⟩); clear hob hb6 VB6) | fail)
 clear K6 KD
 by_cases h2 : E2 = 0
 rotate_left
 ·have hEE : E = E2 := AL.out.1 h2
  subst hEE
  have e1 : (E != 0) = true := by simpa using h2
  have e2 : (E == 0) = false := by simpa using h2
  clear h2
  go_wp2_with (first | (go_at_call 15; (with_reducible refine Calls.mono (awake34_any _) ?_); rintro e w9 ⟨rfl, hb9⟩; have HB9 := Lib.hid (bnext O6.out.low O6.out.low.size hb9); clear hb9) | fail)
  go_ret
  exact ⟨rfl, HB9.out⟩
 subst h2
 by_cases h1 : E = 0
 rotate_left
 ·have e1 : (E != 0) = true := by simpa using h1
  clear h1
  go_wp2_with (first | (go_at_call 15; (with_reducible refine Calls.mono (awake34_any _) ?_); rintro e w9 ⟨rfl, hb9⟩; have HB9 := Lib.hid (bnext O6.out.low O6.out.low.size hb9); clear hb9) | fail)
  go_ret
  exact ⟨rfl, HB9.out⟩
 subst h1
 have AX := Lib.hid (AL.out.2 rfl rfl)
 have FA := Lib.hid (FL.out rfl)
 have FB := Lib.hid (FLG.out rfl)
 obtain ⟨nA, enA⟩ : ∃ n, A.length = n := ⟨_, rfl⟩
 obtain ⟨nB, enB⟩ : ∃ n, B.length = n := ⟨_, rfl⟩
 obtain ⟨pa, ca, rfl, -, -, -, -, hra⟩ := OA6.out.cut enA
 obtain ⟨pb, cb, rfl, -, -, -, -, hrb⟩ := OB6.out.cut enB
 have RA := Lib.hid hra
 have RB := Lib.hid hrb
 have hAL := FA.out.len
 have hBA := AX.out.len
 rw [enA] at hAL hBA
 rw [enB] at hBA
 have hgt : decide ((nA : Int) < (nB : Int)) = false := decide_eq_false (by omega)
 have hgt2 : decide (nA < nB) = false := decide_eq_false (by omega)
 have HNA := Lib.hid enA
 have HNB := Lib.hid enB
 have hun := O6.out.yv.unit
 simp only at hun
 have HUN := Lib.hid (show 1 ≤ un ∧ un ≤ 100000 by rw [hun]; exact O6.out.ok.unit)
 have hun1 := HUN.out.1
 have UB := Lib.hid (fun k => usum_bd (u := un) hun1 (xs := cappeds (A.take k)) fun x hx => by
  obtain ⟨b, hb, rfl⟩ := List.mem_map.1 hx
  have := FA.out.each b (List.mem_of_mem_take hb)
  omega)
 have NEV := Lib.hid (show ev = Y.env from O6.out.yv.env)
 have NUN := Lib.hid hun
 clear hun hra hrb enA enB AL FL FLG AG OA5 OA6 OB6
 go_wp2_with fail
 go_loopw [10, 65] (fun u i W => ∃ k : Nat, k ≤ nA ∧ i = .int .i64 k ∧ u = .int .i64 (En.usum un (cappeds (A.take k))) ∧ Below w6.heap.size w6 W) (fun _ i _ => nA - (intOf i).toNat)
 case atStart => exact ⟨0, Nat.zero_le _, rfl, rfl, Below.refl _ _⟩
 case round =>
  obtain ⟨wo, rfl⟩ : ∃ wo : World, wo = wr := ⟨_, rfl⟩
  obtain ⟨k, hk, rfl, rfl, hb⟩ := hrel
  have HB := Lib.hid hb
  have OO := Lib.hid (O6.out.below hb)
  have RO := Lib.hid (RA.out.below hb)
  have hk0 : (0 : Int) ≤ (k : Int) := Int.natCast_nonneg _
  by_cases hlt : k < nA
  ·have hk1 : (k : Int) < (nA : Int) := by omega
   have hkA : k < A.length := by rw [HNA.out]; exact hlt
   obtain ⟨b, off, rfl, hbl, ⟨c0, c1, c2, c3, c4, c5, c6, c7, c8⟩⟩ := SA_at RO.out hkA
   have ub := UB.out k
   have ub1 := UB.out (k + 1)
   have hcl : (cappeds (A.take k)).length ≤ 64 := by unfold cappeds; rw [List.length_map, List.length_take]; omega
   have hcl1 : (cappeds (A.take (k + 1))).length ≤ 64 := by unfold cappeds; rw [List.length_map, List.length_take]; omega
   have ST := Lib.hid (show cappeds (A.take (k + 1)) = cappeds (A.take k) ++ [A[k].capped] from by
    rw [List.take_succ_eq_append_getElem hkA]; unfold cappeds; rw [List.map_append]; rfl)
   have EV := FA.out.each _ (List.getElem_mem hkA)
   obtain ⟨x, ex⟩ : ∃ x, A[k] = x := ⟨_, rfl⟩
   rw [ex] at c0 c1 c2 c3 c4 c5 c6 c7 c8 ST EV
   have v8 := EV.2.2.2.2.2.2.2.1
   have v9 := EV.2.2.2.2.2.2.2.2
   have hq0 : 0 ≤ x.capped / un := Int.ediv_nonneg v8 (by omega)
   have hq1 : x.capped / un ≤ 68719476736 := Int.le_trans (Int.ediv_le_self _ v8) v9
   have SU := Lib.hid (show En.usum un (cappeds (A.take (k + 1))) = En.usum un (cappeds (A.take k)) + x.capped / un from by rw [ST.out, usum_snoc])
   rw [SU.out] at ub1
   obtain ⟨U, eU⟩ : ∃ U, En.usum un (cappeds (A.take k)) = U := ⟨_, rfl⟩
   rw [eU] at ub ub1 SU ⊢
   have hw1 : IntKind.i64.wrap (U + x.capped / un) = U + x.capped / un := by rw [IntKind.wrap_i64]; omega
   have hba := (Below.refl wo.heap.size wo).alloc (Nat.le_refl _) (.cells #[.int .i64 x.farm, .int .i64 x.scheme, .int .i64 x.decl, .int .i64 x.det, .int .i64 x.paid, .int .i64 x.rated, .int .i64 x.timely, .int .i64 x.capped, .int .i64 x.due] 60)
   have OA := Lib.hid (OO.out.below hba)
   have HBA := Lib.hid (HB.out.trans (hba.mono HB.out.size))
   have VB := OA.out.vb
   simp only [yCells] at VB
   have y0 := VB.cell 0; have y1 := VB.cell 1; have y2 := VB.cell 2; have y3 := VB.cell 3; have y4 := VB.cell 4; have y5 := VB.cell 5; have y6 := VB.cell 6; have y7 := VB.cell 7; have y8 := VB.cell 8; have y9 := VB.cell 9;
   clear VB
   clear hba ex eU EV ub ub1 hcl hcl1 hbl hb
   go_wp2_with fail
   go_roundw
   case rel => exact ⟨k + 1, by omega, by go_num, by rw [SU.out], HBA.out⟩
   case measure => simp [intOf]; omega
  ·obtain rfl : k = nA := by omega
   have ub := UB.out A.length
   have ETA : A.take k = A := by rw [← HNA.out, List.take_length]
   rw [List.take_length] at ub
   rw [ETA]
   have hev := O6.out.ok.env
   rw [← NEV.out] at hev
   have hev0 := hev.1
   have hev1 := hev.2
   have EAC := Lib.hid AX.out.each
   rw [← NEV.out, ← NUN.out] at EAC
   obtain ⟨U, eU⟩ : ∃ U, En.usum un (cappeds A) = U := ⟨_, rfl⟩
   rw [eU] at EAC ⊢
   clear eU hk hlt hk0 ub ETA hev hb
   by_cases hq : ev / un < U
   ·have s2 : decide (ev / un < U) = true := decide_eq_true hq
    have EA2 := Lib.hid (fun (i : Nat) (h1 : i < B.length) (h2 : i < A.length) => show { A[i] with due := B[i].due } = B[i] from by have := EAC.out i h1 h2; rw [if_pos hq] at this; exact this)
    clear hq EAC
    go_wp2_with fail
    go_loopw [79] (fun i W => ∃ m2 : Nat, m2 ≤ nB ∧ i = .int .i64 m2 ∧ Below wo.heap.size wo W) (fun i _ => nB - (intOf i).toNat)
    case atStart => exact ⟨0, Nat.zero_le _, rfl, Below.refl _ _⟩
    case round =>
     obtain ⟨wp, rfl⟩ : ∃ wp : World, wp = wr := ⟨_, rfl⟩
     obtain ⟨m2, hm2, rfl, hb2⟩ := hrel
     have HB2 := Lib.hid hb2
     have hm20 : (0 : Int) ≤ (m2 : Int) := Int.natCast_nonneg _
     have OP := Lib.hid (OO.out.below hb2)
     by_cases hltm : m2 < nB
     ·have hm21 : (m2 : Int) < (nB : Int) := by omega
      have hm2A : (m2 : Int) < (k : Int) := by omega
      have hiA : m2 < A.length := by rw [HNA.out]; omega
      have hiB : m2 < B.length := by rw [HNB.out]; omega
      obtain ⟨b2, off2, rfl, -, ⟨a0, a1, a2, a3, a4, a5, a6, a7, a8⟩⟩ := SA_at (RO.out.below hb2) hiA
      obtain ⟨b3, off3, rfl, hbl3, ⟨d0, d1, d2, d3, d4, d5, d6, d7, d8⟩⟩ := SA_at (RB.out.below (HB.out.trans (hb2.mono HB.out.size))) hiB
      have QE := EA2.out m2 hiB hiA
      obtain ⟨x, ex⟩ : ∃ x, A[m2] = x := ⟨_, rfl⟩
      rw [ex] at a0 a1 a2 a3 a4 a5 a6 a7 a8 QE
      obtain ⟨y, ey⟩ : ∃ y, B[m2] = y := ⟨_, rfl⟩
      rw [ey] at d0 d1 d2 d3 d4 d5 d6 d7 d8 QE
      have q0 : x.farm = y.farm := by have := congrArg Awd.farm QE; exact this
      have q1 : x.scheme = y.scheme := by have := congrArg Awd.scheme QE; exact this
      have q2 : x.decl = y.decl := by have := congrArg Awd.decl QE; exact this
      have q3 : x.det = y.det := by have := congrArg Awd.det QE; exact this
      have q4 : x.paid = y.paid := by have := congrArg Awd.paid QE; exact this
      have q5 : x.rated = y.rated := by have := congrArg Awd.rated QE; exact this
      have q6 : x.timely = y.timely := by have := congrArg Awd.timely QE; exact this
      have q7 : x.capped = y.capped := by have := congrArg Awd.capped QE; exact this
      rw [q0] at a0
      rw [q1] at a1
      rw [q2] at a2
      rw [q3] at a3
      rw [q4] at a4
      rw [q5] at a5
      rw [q6] at a6
      rw [q7] at a7
      obtain ⟨xd, exd⟩ : ∃ v, x.due = v := ⟨_, rfl⟩
      rw [exd] at a8
      clear q0 q1 q2 q3 q4 q5 q6 q7 exd ex ey QE
      have hba := (Below.refl wp.heap.size wp).alloc (Nat.le_refl _) (.cells #[.int .i64 y.farm, .int .i64 y.scheme, .int .i64 y.decl, .int .i64 y.det, .int .i64 y.paid, .int .i64 y.rated, .int .i64 y.timely, .int .i64 y.capped, .int .i64 xd] 60)
      have HBA := Lib.hid (hb2.trans (hba.mono hb2.size))
      have OPA := Lib.hid (OP.out.below hba)
      have VB := OPA.out.vb
      simp only [yCells] at VB
      have y0 := VB.cell 0; have y1 := VB.cell 1; have y2 := VB.cell 2; have y3 := VB.cell 3; have y4 := VB.cell 4; have y5 := VB.cell 5; have y6 := VB.cell 6; have y7 := VB.cell 7; have y8 := VB.cell 8; have y9 := VB.cell 9;
      clear VB
      have hbb := (Below.refl wp.heap.size wp).alloc (Nat.le_refl _) (.cells #[.int .i64 y.farm, .int .i64 y.scheme, .int .i64 y.decl, .int .i64 y.det, .int .i64 y.paid, .int .i64 y.rated, .int .i64 y.timely, .int .i64 y.capped, .int .i64 y.due] 60)
      have HBY := Lib.hid (hb2.trans (hbb.mono hb2.size))
      clear hb2 hba hbb
      go_wp2_with fail
      refine wp_region_quiet_lit (by kernel_rfl) (by kernel_rfl) ?_
      try simp only [List.append_eq, List.cons_append, List.nil_append]
      repeat (go_big_quiet_step (fail))
      refine wpQuiet_nil ?_
      intro _ hwq
      obtain ⟨nq, hwr⟩ := hwq
      subst hwr
      go_wp2_with fail
      go_roundw
      case rel => exact ⟨m2 + 1, by omega, by go_num, bnext HBY.out HBY.out.size (drewN_below _ _)⟩
      case measure => simp [intOf]; omega
     ·obtain rfl : m2 = nB := by omega
      clear hb2 hltm hm2 hm20
      go_wp2_with (first | (go_at_call 15; (with_reducible refine Calls.mono (awake34_any _) ?_); rintro e w9 ⟨rfl, hb9⟩; have HB9 := Lib.hid (bnext OP.out.low OP.out.low.size hb9); clear hb9) | fail)
      go_ret
      exact ⟨rfl, HB9.out⟩
   ·have s2 : decide (ev / un < U) = false := decide_eq_false hq
    have EA2 := Lib.hid (fun (i : Nat) (h1 : i < B.length) (h2 : i < A.length) => show A[i] = B[i] from by have := EAC.out i h1 h2; rw [if_neg hq] at this; exact this)
    clear hq EAC
    go_wp2_with fail
    go_loopw [79] (fun i W => ∃ m2 : Nat, m2 ≤ nB ∧ i = .int .i64 m2 ∧ Below wo.heap.size wo W) (fun i _ => nB - (intOf i).toNat)
    case atStart => exact ⟨0, Nat.zero_le _, rfl, Below.refl _ _⟩
    case round =>
     obtain ⟨wp, rfl⟩ : ∃ wp : World, wp = wr := ⟨_, rfl⟩
     obtain ⟨m2, hm2, rfl, hb2⟩ := hrel
     have HB2 := Lib.hid hb2
     have hm20 : (0 : Int) ≤ (m2 : Int) := Int.natCast_nonneg _
     have OP := Lib.hid (OO.out.below hb2)
     by_cases hltm : m2 < nB
     ·have hm21 : (m2 : Int) < (nB : Int) := by omega
      have hm2A : (m2 : Int) < (k : Int) := by omega
      have hiA : m2 < A.length := by rw [HNA.out]; omega
      have hiB : m2 < B.length := by rw [HNB.out]; omega
      obtain ⟨b2, off2, rfl, -, ⟨a0, a1, a2, a3, a4, a5, a6, a7, a8⟩⟩ := SA_at (RO.out.below hb2) hiA
      obtain ⟨b3, off3, rfl, hbl3, ⟨d0, d1, d2, d3, d4, d5, d6, d7, d8⟩⟩ := SA_at (RB.out.below (HB.out.trans (hb2.mono HB.out.size))) hiB
      have QE := EA2.out m2 hiB hiA
      obtain ⟨y, ey⟩ : ∃ y, B[m2] = y := ⟨_, rfl⟩
      rw [ey] at d0 d1 d2 d3 d4 d5 d6 d7 d8 QE
      rw [QE] at a0 a1 a2 a3 a4 a5 a6 a7 a8
      clear ey QE
      have hba := (Below.refl wp.heap.size wp).alloc (Nat.le_refl _) (.cells #[.int .i64 y.farm, .int .i64 y.scheme, .int .i64 y.decl, .int .i64 y.det, .int .i64 y.paid, .int .i64 y.rated, .int .i64 y.timely, .int .i64 y.capped, .int .i64 y.due] 60)
      have HBA := Lib.hid (hb2.trans (hba.mono hb2.size))
      have OPA := Lib.hid (OP.out.below hba)
      have VB := OPA.out.vb
      simp only [yCells] at VB
      have y0 := VB.cell 0; have y1 := VB.cell 1; have y2 := VB.cell 2; have y3 := VB.cell 3; have y4 := VB.cell 4; have y5 := VB.cell 5; have y6 := VB.cell 6; have y7 := VB.cell 7; have y8 := VB.cell 8; have y9 := VB.cell 9;
      clear VB
      have hbb := (Below.refl wp.heap.size wp).alloc (Nat.le_refl _) (.cells #[.int .i64 y.farm, .int .i64 y.scheme, .int .i64 y.decl, .int .i64 y.det, .int .i64 y.paid, .int .i64 y.rated, .int .i64 y.timely, .int .i64 y.capped, .int .i64 y.due] 60)
      have HBY := Lib.hid (hb2.trans (hbb.mono hb2.size))
      clear hb2 hba hbb
      go_wp2_with fail
      refine wp_region_quiet_lit (by kernel_rfl) (by kernel_rfl) ?_
      try simp only [List.append_eq, List.cons_append, List.nil_append]
      repeat (go_big_quiet_step (fail))
      refine wpQuiet_nil ?_
      intro _ hwq
      obtain ⟨nq, hwr⟩ := hwq
      subst hwr
      go_wp2_with fail
      go_roundw
      case rel => exact ⟨m2 + 1, by omega, by go_num, bnext HBY.out HBY.out.size (drewN_below _ _)⟩
      case measure => simp [intOf]; omega
     ·obtain rfl : m2 = nB := by omega
      clear hb2 hltm hm2 hm20
      go_wp2_with (first | (go_at_call 15; (with_reducible refine Calls.mono (awake34_any _) ?_); rintro e w9 ⟨rfl, hb9⟩; have HB9 := Lib.hid (bnext OP.out.low OP.out.low.size hb9); clear hb9) | fail)
      go_ret
      exact ⟨rfl, HB9.out⟩
end Go.Proofs.YtmlfcpglhipjgaaGreat
