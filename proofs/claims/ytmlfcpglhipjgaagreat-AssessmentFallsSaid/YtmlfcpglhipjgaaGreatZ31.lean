/-
  PACKED (pack8.py): what is needed of the texts Fa.
-/
import Derived.Test.YtmlfcpglhipjgaaGreatZ0
import Derived.Test.YtmlfcpglhipjgaaGreatZ1
import Derived.Test.YtmlfcpglhipjgaaGreatZ4
import Derived.Test.YtmlfcpglhipjgaaGreatZ6
import Derived.Test.YtmlfcpglhipjgaaGreatZ7
import Derived.Test.YtmlfcpglhipjgaaGreatZ9
import Derived.Test.YtmlfcpglhipjgaaGreatZ10
import Derived.Test.YtmlfcpglhipjgaaGreatZ13
import Derived.Test.YtmlfcpglhipjgaaGreatZ17
import Derived.Test.YtmlfcpglhipjgaaGreatZ19
import Derived.Test.YtmlfcpglhipjgaaGreatZ26
import Derived.Test.YtmlfcpglhipjgaaGreatZ29
import Derived.Test.YtmlfcpglhipjgaaGreatZ30
namespace Go.Proofs.YtmlfcpglhipjgaaGreat.Sc
end Go.Proofs.YtmlfcpglhipjgaaGreat.Sc
namespace Go.Proofs.YtmlfcpglhipjgaaGreat.As
end Go.Proofs.YtmlfcpglhipjgaaGreat.As
namespace Go.Proofs.YtmlfcpglhipjgaaGreat
open Go.RowKit Sc As
theorem As.usum_snoc (u : Int) (xs : List Int) (x : Int) : En.usum u (xs ++ [x]) = En.usum u xs + x / u := by unfold En.usum En.units; rw [List.map_append, List.map_singleton, Sh.sum_snoc]
theorem As.usum_bd {u : Int} (hu : 1 ≤ u) : ∀ {xs : List Int}, (∀ x ∈ xs, 0 ≤ x ∧ x ≤ 68719476736) → 0 ≤ En.usum u xs ∧ En.usum u xs ≤ 68719476736 * xs.length := by
 intro xs h
 have h1 : ∀ y ∈ En.units u xs, 0 ≤ y ∧ y ≤ 68719476736 := fun y hy => by
  unfold En.units at hy
  obtain ⟨x, hx, rfl⟩ := List.mem_map.1 hy
  have := h x hx
  exact ⟨Int.ediv_nonneg this.1 (by omega), Int.le_trans (Int.ediv_le_self _ this.1) this.2⟩
 have h2 : Sh.sum (En.units u xs) ≤ 68719476736 * (En.units u xs).length := Sh.sum_le_len fun y hy => (h1 y hy).2
 have h3 : (En.units u xs).length = xs.length := by unfold En.units; simp
 unfold En.usum
 rw [h3] at h2
 exact ⟨Sh.sum_nonneg fun y hy => (h1 y hy).1, h2⟩
set_option maxRecDepth 100000 in
set_option maxHeartbeats 8000000 in
theorem assessmentFalls_walk (a : Option Addr) (len cap : Nat) (z : List Int) (w : World) (w0 : IsRow .i64 w a len cap z) :
  Calls Tryz.prog 5 #[.slice a len cap] w fun e w' => e = .returned (.bool true) ∧ Below w.heap.size w w' := by
 obtain ⟨hIr, hLr⟩ := w0.ints
 have NW := Lib.hid (new_any a len cap z w w0)
 obtain ⟨l, el⟩ : ∃ l, (z.take len).take 400 = l := ⟨_, rfl⟩
 rw [el] at NW
 clear el hIr hLr w0
 go_enter Tryz.func5, Tryz.ntmps5
 go_wp2_with fail
 (with_reducible refine Calls.mono NW.out ?_)
 rintro e w1 ⟨rfl, ht1, hb1⟩
 have LW := Lib.hid (law2_any w.heap.size l 0 w1 ht1)
 have HT1 := Lib.hid ht1.lt
 have HB1 := Lib.hid hb1
 clear NW ht1 hb1
 go_wp2_with fail
 (with_reducible refine Calls.mono LW.out ?_)
 rintro e w2 ⟨d, r, Y, q, rfl, hy, hok, hlen, hdue, hsm, hp⟩
 have O2 := Lib.hid (Opn.init (T := 29) HB1.out HT1.out hy hok hlen hdue hsm hp rfl)
 clear hy hok hlen hdue hsm hp LW
 obtain ⟨sp, sn, sc, tp, tn, tc, ldue, llast, lmille, gp, gn, gc, cp, ev, un, wd⟩ := r
 simp only [yCells] at O2 ⊢
 obtain ⟨g, eg⟩ : ∃ g, w2.heap.size = g := ⟨_, rfl⟩
 rw [eg] at O2
 have FM := Lib.hid (O2.out.farms 4 (by omega))
 simp only [yCells] at FM
 go_wp2_with fail
 clear eg
 generalize w2.alloc (.cells #[.slice sp sn sc, .slice tp tn tc, .int .i64 ldue, .int .i64 llast, .int .i64 lmille, .slice gp gn gc, .int .i64 cp, .int .i64 ev, .int .i64 un, .int .i64 wd] 29) = w3 at *
 (with_reducible refine Calls.mono FM.out ?_)
 rintro e w4 ⟨p, F, capF, q4, rfl, hcF, hO4, hF4, -⟩
 have O4 := Lib.hid hO4
 have F4 := Lib.hid hF4
 clear FM hO4 hF4 O2 hcF
 have VB := O4.out.vb
 simp only [yCells] at VB
 have y0 := VB.cell 0; have y1 := VB.cell 1; have y2 := VB.cell 2; have y3 := VB.cell 3; have y4 := VB.cell 4; have y5 := VB.cell 5; have y6 := VB.cell 6; have y7 := VB.cell 7; have y8 := VB.cell 8; have y9 := VB.cell 9;
 clear VB
 have AS := Lib.hid (assess34_any d _ Y p F capF w4 O4.out.yv F4.out.at_)
 simp only [yCells] at AS
 have EC := Lib.hid (assErr_cases F4.out.ok)
 have FL := Lib.hid (fun h => F4.out.falls h)
 unfold AsG at AS
 obtain ⟨E, eE⟩ : ∃ E, assErr Y F = E := ⟨_, rfl⟩
 obtain ⟨A, eA⟩ : ∃ A, assess Y F = A := ⟨_, rfl⟩
 rw [eE, eA] at FL
 rw [eE] at EC
 simp only [eE, eA] at AS
 clear eE eA
 go_wp2_with fail
 (with_reducible refine Calls.mono AS.out ?_)
 rintro e w5 ⟨va, rfl, hoa, hb5⟩
 obtain ⟨pa, ca, rfl, -, -, -, -, hra⟩ := hoa.cut rfl
 have O5 := Lib.hid (O4.out.below hb5)
 have RA := Lib.hid hra
 clear hoa hb5 hra AS y0 y1 y2 y3 y4 y5 y6 y7 y8 y9
 rcases (show E = 67 ∨ E = 1 ∨ E = 0 from by rcases EC.out with h | h | h <;> omega) with rfl | rfl | rfl
 ·go_wp2_with (first | (go_at_call 15; (with_reducible refine Calls.mono (awake34_any _) ?_); rintro e w9 ⟨rfl, hb9⟩; have HB9 := Lib.hid (bnext O5.out.low O5.out.low.size hb9); clear hb9) | fail)
  go_ret
  exact ⟨rfl, HB9.out⟩
 ·go_wp2_with (first | (go_at_call 15; (with_reducible refine Calls.mono (awake34_any _) ?_); rintro e w9 ⟨rfl, hb9⟩; have HB9 := Lib.hid (bnext O5.out.low O5.out.low.size hb9); clear hb9) | fail)
  go_ret
  exact ⟨rfl, HB9.out⟩
 have FA := Lib.hid (FL.out rfl)
 have hAL := FA.out.len
 have hun := O5.out.yv.unit
 simp only at hun
 have HUN := Lib.hid (show 1 ≤ un ∧ un ≤ 100000 by rw [hun]; exact O5.out.ok.unit)
 have hun1 := HUN.out.1
 have UB := Lib.hid (fun k => usum_bd (u := un) hun1 (xs := cappeds (A.take k)) fun x hx => by
  obtain ⟨b, hb, rfl⟩ := List.mem_map.1 hx
  have := FA.out.each b (List.mem_of_mem_take hb)
  omega)
 have NEV := Lib.hid (show ev = Y.env from O5.out.yv.env)
 have NUN := Lib.hid hun
 clear hun EC FL
 go_wp2_with fail
 go_loopw [8, 38] (fun u i W => ∃ k : Nat, k ≤ A.length ∧ i = .int .i64 k ∧ u = .int .i64 (En.usum un (cappeds (A.take k))) ∧ Below w5.heap.size w5 W) (fun _ i _ => A.length - (intOf i).toNat)
 case atStart => exact ⟨0, Nat.zero_le _, rfl, rfl, Below.refl _ _⟩
 case round =>
  obtain ⟨wo, rfl⟩ : ∃ wo : World, wo = wr := ⟨_, rfl⟩
  obtain ⟨k, hk, rfl, rfl, hb⟩ := hrel
  have HB := Lib.hid hb
  have OO := Lib.hid (O5.out.below hb)
  have RO := Lib.hid (RA.out.below hb)
  have hk0 : (0 : Int) ≤ (k : Int) := Int.natCast_nonneg _
  clear hb
  by_cases hlt : k < A.length
  ·have hk1 : (k : Int) < (A.length : Int) := by omega
   obtain ⟨b, off, rfl, hbl, ⟨c0, c1, c2, c3, c4, c5, c6, c7, c8⟩⟩ := SA_at RO.out hlt
   have ub := UB.out k
   have ub1 := UB.out (k + 1)
   have hcl : (cappeds (A.take k)).length ≤ 64 := by unfold cappeds; rw [List.length_map, List.length_take]; omega
   have hcl1 : (cappeds (A.take (k + 1))).length ≤ 64 := by unfold cappeds; rw [List.length_map, List.length_take]; omega
   have ST := Lib.hid (show cappeds (A.take (k + 1)) = cappeds (A.take k) ++ [A[k].capped] from by
    rw [List.take_succ_eq_append_getElem hlt]; unfold cappeds; rw [List.map_append]; rfl)
   have EV := FA.out.each _ (List.getElem_mem hlt)
   have ASC := Lib.hid (fun m (hm : m + 1 = k) => show awLt (A[m]'(by omega)) A[k] from List.pairwise_iff_getElem.1 FA.out.asc m k (by omega) hlt (by omega))
   obtain ⟨x, ex⟩ : ∃ x, A[k] = x := ⟨_, rfl⟩
   rw [ex] at c0 c1 c2 c3 c4 c5 c6 c7 c8 ST EV ASC
   obtain ⟨v1, v2, v3, v4, v5, v6, v7, v8, v9⟩ := EV
   have n1 : decide (x.decl < x.det) = false := decide_eq_false (by omega)
   have n2 : decide (x.det < x.paid) = false := decide_eq_false (by omega)
   have n3 : decide (x.rated < x.timely) = false := decide_eq_false (by omega)
   have n4 : decide (x.timely < x.capped) = false := decide_eq_false (by omega)
   have n5 : decide (x.capped < x.due) = false := decide_eq_false (by omega)
   have n6 : decide (x.due < 0) = false := decide_eq_false (by omega)
   have n7 : decide (x.paid < 0) = false := decide_eq_false (by omega)
   have hq0 : 0 ≤ x.capped / un := Int.ediv_nonneg v8 (by omega)
   have hq1 : x.capped / un ≤ 68719476736 := Int.le_trans (Int.ediv_le_self _ v8) v9
   have SU := Lib.hid (show En.usum un (cappeds (A.take (k + 1))) = En.usum un (cappeds (A.take k)) + x.capped / un from by rw [ST.out, usum_snoc])
   rw [SU.out] at ub1
   obtain ⟨U, eU⟩ : ∃ U, En.usum un (cappeds (A.take k)) = U := ⟨_, rfl⟩
   rw [eU] at ub ub1 SU ⊢
   have hw1 : IntKind.i64.wrap (U + x.capped / un) = U + x.capped / un := by rw [IntKind.wrap_i64]; omega
   have hba := (Below.refl wo.heap.size wo).alloc (Nat.le_refl _) (.cells #[.int .i64 x.farm, .int .i64 x.scheme, .int .i64 x.decl, .int .i64 x.det, .int .i64 x.paid, .int .i64 x.rated, .int .i64 x.timely, .int .i64 x.capped, .int .i64 x.due] 60)
   have OA := Lib.hid (OO.out.below hba)
   have RA2 := Lib.hid (RO.out.below hba)
   have HBA := Lib.hid (HB.out.trans (hba.mono HB.out.size))
   have VB := OA.out.vb
   simp only [yCells] at VB
   have y0 := VB.cell 0; have y1 := VB.cell 1; have y2 := VB.cell 2; have y3 := VB.cell 3; have y4 := VB.cell 4; have y5 := VB.cell 5; have y6 := VB.cell 6; have y7 := VB.cell 7; have y8 := VB.cell 8; have y9 := VB.cell 9;
   clear VB
   have V8 := Lib.hid (And.intro v8 v9)
   have W1 := Lib.hid hw1
   clear hba ex eU v1 v2 v3 v4 v5 v6 v7 ub ub1 hcl hcl1 hbl hw1
   rcases Nat.eq_zero_or_pos k with hz | hz
   ·subst hz
    rw [show ((0 : Nat) : Int) = 0 from rfl]
    rw [Nat.zero_mul, Nat.add_zero] at c0 c1 c2 c3 c4 c5 c6 c7 c8
    go_wp2_with fail
    refine wp_region_quiet_lit (by kernel_rfl) (by kernel_rfl) ?_
    try simp only [List.append_eq, List.cons_append, List.nil_append]
    repeat (go_big_quiet_step (fail))
    refine wpQuiet_nil ?_
    intro _ hwq
    obtain ⟨nq, hwr⟩ := hwq
    subst hwr
    have hw1 := W1.out
    go_wp2
    go_roundw
    case rel => exact ⟨1, by omega, by go_num, by rw [SU.out], bnext HBA.out HBA.out.size (drewN_below _ _)⟩
    case measure => simp [intOf]; omega
   ·obtain ⟨m, hm⟩ : ∃ m, k = m + 1 := ⟨k - 1, by omega⟩
    have hm0 : (0 : Int) ≤ (m : Int) := Int.natCast_nonneg _
    have hm1 : (m : Int) < (A.length : Int) := by omega
    have hml : m < A.length := by omega
    have hkm : IntKind.i64.wrap ((k : Int) - 1) = (m : Int) := by rw [IntKind.wrap_i64]; omega
    have hkp : decide (0 < (k : Int)) = true := decide_eq_true (by omega)
    have hkp2 : (0 : Int) < (k : Int) := by omega
    have hkp3 : decide (0 < k) = true := decide_eq_true (by omega)
    obtain ⟨b', off', e', -, ⟨m0, m1, -, -, -, -, -, -, -⟩⟩ := SA_at RA2.out hml
    cases e'
    have LT := Lib.hid (ASC.out m hm.symm)
    obtain ⟨y, ey⟩ : ∃ y, A[m] = y := ⟨_, rfl⟩
    simp only [ey] at LT m0 m1
    clear ey hm hz
    by_cases hf : x.farm = y.farm
    ·have p1 : decide (x.farm < y.farm) = false := decide_eq_false (by omega)
     have p2 : (x.farm == y.farm) = true := by simpa using hf
     have p3 : decide (x.scheme ≤ y.scheme) = false := decide_eq_false (by have := LT.out; unfold awLt at this; omega)
     clear hf
     go_wp2_with fail
     refine wp_region_quiet_lit (by kernel_rfl) (by kernel_rfl) ?_
     try simp only [List.append_eq, List.cons_append, List.nil_append]
     repeat (go_big_quiet_step (fail))
     refine wpQuiet_nil ?_
     intro _ hwq
     obtain ⟨nq, hwr⟩ := hwq
     subst hwr
     have hw1 := W1.out
     go_wp2
     go_roundw
     case rel => exact ⟨k + 1, by omega, by go_num, by rw [SU.out], bnext HBA.out HBA.out.size (drewN_below _ _)⟩
     case measure => simp [intOf]; omega
    ·have p1 : decide (x.farm < y.farm) = false := decide_eq_false (by have := LT.out; unfold awLt at this; omega)
     have p2 : (x.farm == y.farm) = false := by simpa using hf
     clear hf
     go_wp2_with fail
     refine wp_region_quiet_lit (by kernel_rfl) (by kernel_rfl) ?_
     try simp only [List.append_eq, List.cons_append, List.nil_append]
     repeat (go_big_quiet_step (fail))
     refine wpQuiet_nil ?_
     intro _ hwq
     obtain ⟨nq, hwr⟩ := hwq
     subst hwr
     have hw1 := W1.out
     go_wp2
     go_roundw
     case rel => exact ⟨k + 1, by omega, by go_num, by rw [SU.out], bnext HBA.out HBA.out.size (drewN_below _ _)⟩
     case measure => simp [intOf]; omega
  ·obtain rfl : k = A.length := by omega
   rw [List.take_length]
   have ub := UB.out A.length
   rw [List.take_length] at ub
   have TT := Lib.hid (total34_any pa A ca wo RO.out FA.out.due)
   have hs := FA.out.sum
   have hs0 := FA.out.sum0
   have hnr := FA.out.near
   rw [← NEV.out, ← NUN.out] at hnr
   rw [← NEV.out] at hs
   have hev := O5.out.ok.env
   rw [← NEV.out] at hev
   obtain ⟨U, eU⟩ : ∃ U, En.usum un (cappeds A) = U := ⟨_, rfl⟩
   obtain ⟨T, eT⟩ : ∃ T, total A = T := ⟨_, rfl⟩
   rw [eU] at hnr ub ⊢
   rw [eT] at hs hs0 hnr TT
   have HX := Lib.hid (And.intro hs (And.intro hs0 (And.intro hev hnr)))
   have hq0 : 0 ≤ ev / un := Int.ediv_nonneg hev.1 (by omega)
   have s1 : decide (T ≤ ev) = true := decide_eq_true hs
   have hws : IntKind.i64.wrap (ev - T) = ev - T := by rw [IntKind.wrap_i64]; omega
   have hev0 : 0 ≤ ev := hev.1
   have hev1 : ev ≤ 68719476736 := hev.2
   have TTc := Lib.hid TT.out
   clear hs hs0 hev hnr eU eT hk hlt hk0 ub
   by_cases hq : U ≤ ev / un
   ·have s2 : decide (U ≤ ev / un) = true := decide_eq_true hq
    clear hq
    go_wp2_with fail
    (with_reducible refine Calls.mono TTc.out ?_)
    rintro e w7 ⟨rfl, hb7⟩
    have O7 := Lib.hid (OO.out.below hb7)
    have VB := O7.out.vb
    simp only [yCells] at VB
    have y0 := VB.cell 0; have y1 := VB.cell 1; have y2 := VB.cell 2; have y3 := VB.cell 3; have y4 := VB.cell 4; have y5 := VB.cell 5; have y6 := VB.cell 6; have y7 := VB.cell 7; have y8 := VB.cell 8; have y9 := VB.cell 9;
    clear VB
    clear hb7
    go_wp2_with (first | (go_at_call 15; (with_reducible refine Calls.mono (awake34_any _) ?_); rintro e w9 ⟨rfl, hb9⟩; have HB9 := Lib.hid (bnext O7.out.low O7.out.low.size hb9); clear hb9) | fail)
    go_ret
    exact ⟨rfl, HB9.out⟩
   ·have s2 : decide (U ≤ ev / un) = false := decide_eq_false hq
    have s3 : decide (ev - T < un) = true := decide_eq_true (by have := HX.out; omega)
    have s4 : ev - T < un := by have := HX.out; omega
    clear hq
    go_wp2_with fail
    (with_reducible refine Calls.mono TTc.out ?_)
    rintro e w7 ⟨rfl, hb7⟩
    have O7 := Lib.hid (OO.out.below hb7)
    have VB := O7.out.vb
    simp only [yCells] at VB
    have y0 := VB.cell 0; have y1 := VB.cell 1; have y2 := VB.cell 2; have y3 := VB.cell 3; have y4 := VB.cell 4; have y5 := VB.cell 5; have y6 := VB.cell 6; have y7 := VB.cell 7; have y8 := VB.cell 8; have y9 := VB.cell 9;
    clear VB
    clear hb7
    go_wp2_with (first | (go_at_call 15; (with_reducible refine Calls.mono (awake34_any _) ?_); rintro e w9 ⟨rfl, hb9⟩; have HB9 := Lib.hid (bnext O7.out.low O7.out.low.size hb9); clear hb9) | fail)
    go_ret
    exact ⟨rfl, HB9.out⟩
end Go.Proofs.YtmlfcpglhipjgaaGreat
