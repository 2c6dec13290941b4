/-
  MERGED (mergek.py): the texts T29, Wr, W10.
-/
import Derived.Test.YtflcdkibjakciaaGreatDoorT27
import Derived.ChangeKeysEq
import Derived.Shelf.GgClosure.StringsIndexFunc
import Derived.Laws.RangeAny
import Derived.Laws.RangeString
import Derived.Test.YtflcdkibjakciaaGreatDoorM14

namespace Go.Proofs.YtflcdkibjakciaaGreatDoor
open Go.RowKit Te Sc

theorem fst_ne {f : Nat → Int} {n k : Nat} (h : fst f n = some k) : k < n ∧ f k ≠ 0 := by
  unfold fst at h
  have h1 := List.mem_of_find?_eq_some h
  have h2 := List.find?_some h
  exact ⟨List.mem_range.1 h1, by simpa using h2⟩

theorem fst_no {f : Nat → Int} {n : Nat} (h : fst f n = none) : ∀ j, j < n → f j = 0 := by
  intro j hj
  unfold fst at h
  rw [List.find?_eq_none] at h
  simpa using h j (List.mem_range.2 hj)

/-- A right law. -/
theorem chk_fine {L : List Sch} (h : (chk17 L).2 = 0) : chk17 L = (-1, 0) ∧ L.length ≤ 16 ∧ (∀ j, j < L.length → errA L j = 0) ∧ (∀ j, j < L.length → errB L j = 0) := by
  by_cases h16 : 16 < L.length
  · rw [chk_long h16] at h; cases h
  cases hA : fst (errA L) L.length with
  | some i =>
    have e : chk17 L = ((i : Int), errA L i) := by unfold chk17; rw [if_neg h16, hA]
    rw [e] at h
    exact absurd h (fst_ne hA).2
  | none =>
    cases hB : fst (errB L) L.length with
    | some i =>
      have e : chk17 L = ((i : Int), 17) := by unfold chk17; rw [if_neg h16, hA]; simp only; rw [hB]
      rw [e] at h
      cases h
    | none => exact ⟨chk_ok h16 (fst_no hA) (fst_no hB), by omega, fst_no hA, fst_no hB⟩

def confT (v : Option (Int × Int)) : Value := match v with | some c => .tuple #[.int .i64 c.1, .int .i64 c.2, .bool true] | none => .tuple #[.int .i64 0, .int .i64 0, .bool false]
def ConfG (v : Option (Int × Int)) (w : World) (e : Ending) (w' : World) : Prop := e = .returned (confT v) ∧ Below w.heap.size w w'

theorem conf_bad {L : List Sch} {set : Int} (h : (chk17 L).2 ≠ 0) : conf17 L set = none := by unfold conf17; rw [if_neg h]
theorem conf_ok {L : List Sch} {set : Int} (h : (chk17 L).2 = 0) : conf17 L set = conf1 set L := by unfold conf17; rw [if_pos h]

theorem conf1_end {L : List Sch} {set : Int} : conf1 set (L.drop L.length) = none := by rw [List.drop_length]; rfl
theorem conf1_next {L : List Sch} {set : Int} {k : Nat} (hk : k < L.length) (h : ∀ j (hj : j < (L.drop (k + 1)).length), confB set L[k] (L.drop (k + 1))[j] = false) : conf1 set (L.drop k) = conf1 set (L.drop (k + 1)) := by
  rw [List.drop_eq_getElem_cons hk]
  show (match (L.drop (k + 1)).find? (confB set L[k]) with | some b => some (L[k].num, b.num) | none => conf1 set (L.drop (k + 1))) = _
  rw [show (L.drop (k + 1)).find? (confB set L[k]) = none from List.find?_eq_none.2 fun x hx => by
    obtain ⟨j, hj, rfl⟩ := List.mem_iff_getElem.1 hx
    rw [h j hj]; decide]
theorem conf1_hit {L : List Sch} {set : Int} {k j : Nat} (hk : k < L.length) (hj : j < (L.drop (k + 1)).length) (h : ∀ m (hm : m < (L.drop (k + 1)).length), m < j → confB set L[k] (L.drop (k + 1))[m] = false) (h2 : confB set L[k] (L.drop (k + 1))[j] = true) : conf1 set (L.drop k) = some (L[k].num, (L.drop (k + 1))[j].num) := by
  rw [List.drop_eq_getElem_cons hk]
  show (match (L.drop (k + 1)).find? (confB set L[k]) with | some b => some (L[k].num, b.num) | none => conf1 set (L.drop (k + 1))) = _
  rw [show (L.drop (k + 1)).find? (confB set L[k]) = some (L.drop (k + 1))[j] from List.find?_eq_some_iff_getElem.2 ⟨h2, j, hj, rfl, fun i hi => by rw [h i (by omega) hi]; rfl⟩]

theorem under_schs : Tryz.prog.underlying 23 = some (.slice (Tryz.prog.elem 23)) := by kernel_rfl
theorem cells_sch : Tryz.prog.cellsOf 32 = 10 := by kernel_rfl
theorem elem_schs : Tryz.prog.elem 23 = 32 := by kernel_rfl

/-- The schemes from one on. -/
theorem SsAt.from {Q : Nat → Prop} {w : World} {d b off : Nat} {L : List Sch} (h : SsAt Q w d (some ⟨b, off, none⟩) L) {cap : Nat} (hcap : L.length ≤ cap) {m : Nat} (hm : m ≤ L.length) (i : Int) (hi : i = (m : Int)) :
    ∃ q c1, SsAt Q w d q (L.drop m) ∧ ∀ W, (Instr.slice 23 (.slice (some ⟨b, off, none⟩) L.length cap) (some (.int .i64 i)) none none).run Tryz.prog W = .ok (.slice q (L.drop m).length c1) W := by
  subst hi
  have hrun : ∀ W, (Instr.slice 23 (.slice (some ⟨b, off, none⟩) L.length cap) (some (.int .i64 (m : Int))) none none).run Tryz.prog W = .ok (sliced (some ⟨b, off, none⟩) m L.length cap 10) W := fun W => by
    have hs : (sizeOf (Tryz.prog.elem 23)).run Tryz.prog W = .ok 10 W := by
      obtain ⟨i0, _, h1, _⟩ := el_sch.ex
      rw [elem_schs, run_sizeOf W h1, cells_sch]
    rw [run_slice_l (P := Tryz.prog) W 23 (some ⟨b, off, none⟩) L.length cap under_schs .i64 m (by omega) (by omega), hs]
    rfl
  by_cases hc1 : cap = m
  · have hr : L.drop m = [] := List.drop_of_length_le (by omega)
    refine ⟨some ⟨b, off, none⟩, cap - m, by rw [hr]; exact SsAt.nil _ _ _ _, fun W => ?_⟩
    rw [hrun W]
    unfold sliced
    rw [if_pos hc1, List.length_drop]
  · obtain ⟨⟨R, h1, h2, h3⟩, h4⟩ := h
    refine ⟨some ⟨b, off + m * 10, none⟩, cap - m, ⟨⟨R.drop m, by rw [List.length_drop, List.length_drop, h1], h2.drop m, fun k a b => ?_⟩, fun a e => ?_⟩, fun W => ?_⟩
    · rw [List.getElem_drop, List.getElem_drop]
      exact h3 _ _ _
    · cases e
      rcases h4 _ rfl with h | h
      · left; rw [h]; simp
      · exact .inr h
    · rw [hrun W]
      unfold sliced
      rw [if_neg hc1, List.length_drop]
      simp only [Option.map_some, Go.WideShapes.add_plain]

set_option maxRecDepth 100000 in
set_option maxHeartbeats 4000000 in
theorem conf17_any {Q : Nat → Prop} (d : Nat) (p : Option Addr) (L : List Sch) (cap : Nat) (set : Int) (w : World) (h : SsAt Q w d p L) (hz : ∀ s ∈ L, s.nm.size ≤ 9223372036854775807) (hcap : L.length ≤ cap) :
    Calls Tryz.prog 24 #[.slice p L.length cap, .int .i64 set] w (ConfG (conf17 L set) w) := by
  have CC := Lib.hid (check17_any d p L cap w h hz hcap)
  have hlen := h.len
  have H := Lib.hid h
  clear h hz
  obtain ⟨cv, ecv⟩ : ∃ v, conf17 L set = v := ⟨_, rfl⟩
  rw [ecv]
  have ECV := Lib.hid ecv
  clear ecv
  by_cases he : (chk17 L).2 = 0
  rotate_left
  · have HV := Lib.hid (show cv = none from by rw [← ECV.out, conf_bad he])
    obtain ⟨⟨ci, er⟩, ec⟩ : ∃ c, chk17 L = c := ⟨_, rfl⟩
    rw [ec] at he CC
    have hne : (er != 0) = true := by simpa using he
    clear he ec
    unfold ChkG at CC
    go_enter Tryz.func24, Tryz.ntmps24
    go_wp2_with (first | (go_at_call 18; (with_reducible refine Calls.mono CC.out ?_); rintro e w1 ⟨rfl, hb1⟩; have HB1 := Lib.hid hb1; clear hb1))
    go_ret3
    exact ⟨by rw [HV.out]; rfl, HB1.out⟩
  obtain ⟨ec, hl16, hA, -⟩ := chk_fine he
  rw [ec] at CC
  have HA := Lib.hid hA
  have HC := Lib.hid (show cv = conf1 set (L.drop 0) from by rw [← ECV.out, conf_ok he, List.drop_zero])
  clear he ec hA
  unfold ChkG at CC
  go_enter Tryz.func24, Tryz.ntmps24
  go_wp2_with (first | (go_at_call 18; (with_reducible refine Calls.mono CC.out ?_); rintro e w1 ⟨rfl, hb1⟩; have HB1 := Lib.hid hb1; clear hb1))
  go_loopw [22] (fun i wr => ∃ k : Nat, k ≤ L.length ∧ i = .int .i64 k ∧ cv = conf1 set (L.drop k) ∧ Below w.heap.size w wr) (fun i _ => L.length - (intOf i).toNat)
  case atStart => exact ⟨0, Nat.zero_le _, rfl, HC.out, HB1.out⟩
  case round =>
    obtain ⟨wo, rfl⟩ : ∃ wo : World, wo = wr := ⟨_, rfl⟩
    obtain ⟨k, hk, rfl, hcv, hb⟩ := hrel
    have HCV := Lib.hid hcv
    have HB := Lib.hid hb
    have hk0 : (0 : Int) ≤ (k : Int) := Int.natCast_nonneg _
    clear hcv
    by_cases hlt : k < L.length
    · have hk1 : (k : Int) < (L.length : Int) := by omega
      obtain ⟨b, off, r, rfl, hbl, hC, hv⟩ := (H.out.below hb).at hlt
      have hnum := errA_num hlt (HA.out k hlt)
      have RU := Lib.hid hv.num
      have RE := Lib.hid hv.ex
      obtain ⟨c0, c1, c2, c3, c4, c5, c6, c7, c8, c9⟩ := hC
      obtain ⟨num, nm, ⟨o, tn, tm, tp, tl, tc⟩, bp, bn, bc, least, ex, needs⟩ := r
      simp only at c0 c1 c2 c3 c4 c5 c6 c7 c8 c9 RU RE
      rw [← RU.out] at hnum
      obtain ⟨h0, h15⟩ := hnum
      obtain ⟨q, qc, hq, hrun⟩ := ((H.out.below hb).below (balloc (Nat.le_refl _) (Below.refl _ _) (.cells #[.int .i64 num, .string nm, .int .i64 o, .int .i64 tn, .int .i64 tm, .slice tp tl tc, .slice bp bn bc, .int .i64 least, .int .i64 ex, .bool needs] 32))).from hcap (show k + 1 ≤ L.length from hlt) ((k : Int) + 1) (by omega)
      have HQ := Lib.hid hq
      have HBA := Lib.hid (balloc (Nat.le_refl _) hb (.cells #[.int .i64 num, .string nm, .int .i64 o, .int .i64 tn, .int .i64 tm, .slice tp tl tc, .slice bp bn bc, .int .i64 least, .int .i64 ex, .bool needs] 32))
      obtain ⟨D, eD⟩ : ∃ D, L.drop (k + 1) = D := ⟨_, rfl⟩
      have ED := Lib.hid eD
      rw [eD] at HQ hrun
      have hDl := HQ.out.len
      have HN := Lib.hid (fun (h : ∀ j (hj : j < D.length), confB set L[k] D[j] = false) => show cv = conf1 set (L.drop (k + 1)) from by
        rw [HCV.out]; exact conf1_next hlt (by rw [ED.out]; exact h))
      have HH := Lib.hid (fun j (hj : j < D.length) (h : ∀ m (hm : m < D.length), m < j → confB set L[k] D[m] = false) (h2 : confB set L[k] D[j] = true) => show cv = some (num, D[j].num) from by
        rw [HCV.out, RU.out]; subst eD; exact conf1_hit hlt hj h h2)
      have HNM := Lib.hid (fun j (hj : j < D.length) => show 0 ≤ D[j].num ∧ D[j].num ≤ 15 from by
        subst eD
        rw [List.getElem_drop]
        rw [List.length_drop] at hj
        exact errA_num _ (HA.out (k + 1 + j) (by omega)))
      clear hb hv hq eD
      go_wp2_with (fail)
      obtain ⟨W1, eW1⟩ : ∃ W : World, W = wo.alloc (.cells #[.int .i64 num, .string nm, .int .i64 o, .int .i64 tn, .int .i64 tm, .slice tp tl tc, .slice bp bn bc, .int .i64 least, .int .i64 ex, .bool needs] 32) := ⟨_, rfl⟩
      have HS1 := Lib.hid (show wo.heap.size < W1.heap.size by rw [eW1]; simp)
      have V0 := Lib.hid (show W1.cell? ⟨wo.heap.size, 0, none⟩ = some (.int .i64 num) from by rw [eW1]; exact World.cell?_alloc_new _ _ _ 0)
      have V8 := Lib.hid (show W1.cell? ⟨wo.heap.size, 8, none⟩ = some (.int .i64 ex) from by rw [eW1]; exact World.cell?_alloc_new _ _ _ 8)
      have HB1' := Lib.hid (show Below w.heap.size w W1 from by rw [eW1]; exact HBA.out)
      have HQ1 := Lib.hid (show SsAt Q W1 d q D from by rw [eW1]; exact HQ.out)
      rw [← eW1]
      clear eW1 hrun
      go_loopw [32] (fun i wr => ∃ j : Nat, j ≤ D.length ∧ i = .int .i64 j ∧ (∀ m (hm : m < D.length), m < j → confB set L[k] D[m] = false) ∧ Below W1.heap.size W1 wr) (fun i _ => D.length - (intOf i).toNat)
      case atStart => exact ⟨0, Nat.zero_le _, rfl, fun j hj h => absurd h (Nat.not_lt_zero j), Below.refl _ _⟩
      case round =>
        obtain ⟨wi, rfl⟩ : ∃ wi : World, wi = wr := ⟨_, rfl⟩
        obtain ⟨j, hj, rfl, hm, hbi⟩ := hrel
        have HM := Lib.hid hm
        have HBI := Lib.hid hbi
        have HBW := Lib.hid (bstep (Nat.le_refl _) HB1'.out hbi)
        have hx0 := (hbi.cell (p := ⟨wo.heap.size, 0, none⟩) HS1.out).trans V0.out
        have hx8 := (hbi.cell (p := ⟨wo.heap.size, 8, none⟩) HS1.out).trans V8.out
        have hlw := Nat.lt_of_lt_of_le HS1.out hbi.size
        have hj0 : (0 : Int) ≤ (j : Int) := Int.natCast_nonneg _
        by_cases hjk : j < D.length
        · have hj1 : (j : Int) < (D.length : Int) := by omega
          obtain ⟨b', off', y, rfl, hyl, hY, hyv⟩ := (HQ1.out.below hbi).at hjk
          have hyn := HNM.out j hjk
          have YU := Lib.hid hyv.num
          obtain ⟨y0, y1, y2, y3, y4, y5, y6, y7, y8, y9⟩ := hY
          obtain ⟨ynum, ynm, ⟨yo, ytn, ytm, ytp, ytl, ytc⟩, ybp, ybn, ybc, yleast, yex, yneeds⟩ := y
          simp only at y0 y1 y2 y3 y4 y5 y6 y7 y8 y9 YU
          rw [← YU.out] at hyn
          obtain ⟨g0, g15⟩ := hyn
          have HBJ := Lib.hid (balloc (Nat.le_refl _) hbi (.cells #[.int .i64 ynum, .string ynm, .int .i64 yo, .int .i64 ytn, .int .i64 ytm, .slice ytp ytl ytc, .slice ybp ybn ybc, .int .i64 yleast, .int .i64 yex, .bool yneeds] 32))
          have HBX := Lib.hid (balloc (Nat.le_refl _) HBW.out (.cells #[.int .i64 ynum, .string ynm, .int .i64 yo, .int .i64 ytn, .int .i64 ytm, .slice ytp ytl ytc, .slice ybp ybn ybc, .int .i64 yleast, .int .i64 yex, .bool yneeds] 32))
          obtain ⟨z1, e1⟩ : ∃ z, bitB set num = z := ⟨_, rfl⟩
          obtain ⟨z2, e2⟩ : ∃ z, bitB set ynum = z := ⟨_, rfl⟩
          obtain ⟨z3, e3⟩ : ∃ z, bitB ex ynum = z := ⟨_, rfl⟩
          have E1 : (bits BinOp.and IntKind.i64 (set / 2 ^ num.toNat) 1 == 1) = z1 := by rw [bit_one, e1]
          have E2 : (bits BinOp.and IntKind.i64 (set / 2 ^ ynum.toNat) 1 == 1) = z2 := by rw [bit_one, e2]
          have E3 : (bits BinOp.and IntKind.i64 (ex / 2 ^ ynum.toNat) 1 == 1) = z3 := by rw [bit_one, e3]
          have CB := Lib.hid (show confB set L[k] D[j] = (z1 && (z2 && z3)) from by unfold confB; rw [← RU.out, ← YU.out, ← RE.out, e1, e2, e3])
          clear hm hbi hyv e1 e2 e3
          have STEP := Lib.hid (fun (h : confB set L[k] D[j] = false) => show ∀ m (hm : m < D.length), m < j + 1 → confB set L[k] D[m] = false from fun m hm hmj => by
            by_cases e : m = j
            · subst e; exact h
            · exact HM.out m hm (by omega))
          cases z1
          · have HV := Lib.hid (STEP.out (by rw [CB.out]; rfl))
            go_wp2
            go_roundw
            case rel => exact ⟨j + 1, by omega, by go_num, HV.out, HBJ.out⟩
            case measure => simp [intOf]; omega
          cases z2
          · have HV := Lib.hid (STEP.out (by rw [CB.out]; rfl))
            go_wp2
            go_roundw
            case rel => exact ⟨j + 1, by omega, by go_num, HV.out, HBJ.out⟩
            case measure => simp [intOf]; omega
          cases z3
          · have HV := Lib.hid (STEP.out (by rw [CB.out]; rfl))
            go_wp2
            go_roundw
            case rel => exact ⟨j + 1, by omega, by go_num, HV.out, HBJ.out⟩
            case measure => simp [intOf]; omega
          · have HV := Lib.hid (HH.out j hjk HM.out (by rw [CB.out]; rfl))
            rw [← YU.out] at HV
            go_wp2
            obtain ⟨W2, eW2⟩ : ∃ W : World, W = wi.alloc (.cells #[.int .i64 ynum, .string ynm, .int .i64 yo, .int .i64 ytn, .int .i64 ytm, .slice ytp ytl ytc, .slice ybp ybn ybc, .int .i64 yleast, .int .i64 yex, .bool yneeds] 32) := ⟨_, rfl⟩
            have x0 : W2.cell? ⟨wo.heap.size, 0, none⟩ = some (.int .i64 num) := by rw [eW2]; exact (World.cell?_alloc_past _ _ _ hlw).trans hx0
            have x1 : W2.cell? ⟨wi.heap.size, 0, none⟩ = some (.int .i64 ynum) := by rw [eW2]; exact World.cell?_alloc_new _ _ _ 0
            have HB2 := Lib.hid (show Below w.heap.size w W2 from by rw [eW2]; exact HBX.out)
            rw [← eW2]
            clear eW2
            go_quiet (fail)
            go_wp2
            go_ret3
            exact ⟨by rw [HV.out]; rfl, HB2.out.trans ((drewN_below _ _).mono HB2.out.size)⟩
        · obtain rfl : j = D.length := by omega
          have HV := Lib.hid (HN.out fun m hm => HM.out m hm hm)
          clear hm hbi
          go_wp2
          go_roundw
          case rel => exact ⟨k + 1, by omega, by go_num, HV.out, HBW.out⟩
          case measure => simp [intOf]; omega
    · obtain rfl : k = L.length := by omega
      have HV := Lib.hid (show cv = none from by rw [HCV.out, conf1_end])
      clear hb
      go_wp2
      go_ret3
      exact ⟨by rw [HV.out]; rfl, HB.out⟩

set_option maxRecDepth 100000 in
set_option maxHeartbeats 4000000 in
theorem refconf17_any {Q : Nat → Prop} (d : Nat) (p : Option Addr) (L : List Sch) (cap : Nat) (set : Int) (w : World) (h : SsAt Q w d p L) (hz : ∀ s ∈ L, s.nm.size ≤ 9223372036854775807) (hcap : L.length ≤ cap) (hct : ∀ s ∈ L, count s.cond ≤ 1099511627776) :
    Calls Tryz.prog 25 #[.slice p L.length cap, .int .i64 set] w (ConfG (conf17 L set) w) := by
  have CC := Lib.hid (refcheck17_any d p L cap w h hz hcap hct)
  have hlen := h.len
  have H := Lib.hid h
  clear h hz hct
  obtain ⟨cv, ecv⟩ : ∃ v, conf17 L set = v := ⟨_, rfl⟩
  rw [ecv]
  have ECV := Lib.hid ecv
  clear ecv
  by_cases he : (chk17 L).2 = 0
  rotate_left
  · have HV := Lib.hid (show cv = none from by rw [← ECV.out, conf_bad he])
    obtain ⟨⟨ci, er⟩, ec⟩ : ∃ c, chk17 L = c := ⟨_, rfl⟩
    rw [ec] at he CC
    have hne : (er != 0) = true := by simpa using he
    clear he ec
    unfold ChkG at CC
    go_enter Tryz.func25, Tryz.ntmps25
    go_wp2_with (first | (go_at_call 19; (with_reducible refine Calls.mono CC.out ?_); rintro e w1 ⟨rfl, hb1⟩; have HB1 := Lib.hid hb1; clear hb1))
    go_ret3
    exact ⟨by rw [HV.out]; rfl, HB1.out⟩
  obtain ⟨ec, hl16, hA, -⟩ := chk_fine he
  rw [ec] at CC
  have HA := Lib.hid hA
  have HC := Lib.hid (show cv = conf1 set (L.drop 0) from by rw [← ECV.out, conf_ok he, List.drop_zero])
  clear he ec hA
  unfold ChkG at CC
  go_enter Tryz.func25, Tryz.ntmps25
  go_wp2_with (first | (go_at_call 19; (with_reducible refine Calls.mono CC.out ?_); rintro e w1 ⟨rfl, hb1⟩; have HB1 := Lib.hid hb1; clear hb1))
  go_loopw [22] (fun i wr => ∃ k : Nat, k ≤ L.length ∧ i = .int .i64 k ∧ cv = conf1 set (L.drop k) ∧ Below w.heap.size w wr) (fun i _ => L.length - (intOf i).toNat)
  case atStart => exact ⟨0, Nat.zero_le _, rfl, HC.out, HB1.out⟩
  case round =>
    obtain ⟨wo, rfl⟩ : ∃ wo : World, wo = wr := ⟨_, rfl⟩
    obtain ⟨k, hk, rfl, hcv, hb⟩ := hrel
    have HCV := Lib.hid hcv
    have HB := Lib.hid hb
    have hk0 : (0 : Int) ≤ (k : Int) := Int.natCast_nonneg _
    clear hcv
    by_cases hlt : k < L.length
    · have hk1 : (k : Int) < (L.length : Int) := by omega
      obtain ⟨b, off, r, rfl, hbl, hC, hv⟩ := (H.out.below hb).at hlt
      have hnum := errA_num hlt (HA.out k hlt)
      have RU := Lib.hid hv.num
      have RE := Lib.hid hv.ex
      obtain ⟨c0, c1, c2, c3, c4, c5, c6, c7, c8, c9⟩ := hC
      obtain ⟨num, nm, ⟨o, tn, tm, tp, tl, tc⟩, bp, bn, bc, least, ex, needs⟩ := r
      simp only at c0 c1 c2 c3 c4 c5 c6 c7 c8 c9 RU RE
      rw [← RU.out] at hnum
      obtain ⟨h0, h15⟩ := hnum
      obtain ⟨q, qc, hq, hrun⟩ := ((H.out.below hb).below (balloc (Nat.le_refl _) (Below.refl _ _) (.cells #[.int .i64 num, .string nm, .int .i64 o, .int .i64 tn, .int .i64 tm, .slice tp tl tc, .slice bp bn bc, .int .i64 least, .int .i64 ex, .bool needs] 32))).from hcap (show k + 1 ≤ L.length from hlt) ((k : Int) + 1) (by omega)
      have HQ := Lib.hid hq
      have HBA := Lib.hid (balloc (Nat.le_refl _) hb (.cells #[.int .i64 num, .string nm, .int .i64 o, .int .i64 tn, .int .i64 tm, .slice tp tl tc, .slice bp bn bc, .int .i64 least, .int .i64 ex, .bool needs] 32))
      obtain ⟨D, eD⟩ : ∃ D, L.drop (k + 1) = D := ⟨_, rfl⟩
      have ED := Lib.hid eD
      rw [eD] at HQ hrun
      have hDl := HQ.out.len
      have HN := Lib.hid (fun (h : ∀ j (hj : j < D.length), confB set L[k] D[j] = false) => show cv = conf1 set (L.drop (k + 1)) from by
        rw [HCV.out]; exact conf1_next hlt (by rw [ED.out]; exact h))
      have HH := Lib.hid (fun j (hj : j < D.length) (h : ∀ m (hm : m < D.length), m < j → confB set L[k] D[m] = false) (h2 : confB set L[k] D[j] = true) => show cv = some (num, D[j].num) from by
        rw [HCV.out, RU.out]; subst eD; exact conf1_hit hlt hj h h2)
      have HNM := Lib.hid (fun j (hj : j < D.length) => show 0 ≤ D[j].num ∧ D[j].num ≤ 15 from by
        subst eD
        rw [List.getElem_drop]
        rw [List.length_drop] at hj
        exact errA_num _ (HA.out (k + 1 + j) (by omega)))
      clear hb hv hq eD
      go_wp2_with (fail)
      obtain ⟨W1, eW1⟩ : ∃ W : World, W = wo.alloc (.cells #[.int .i64 num, .string nm, .int .i64 o, .int .i64 tn, .int .i64 tm, .slice tp tl tc, .slice bp bn bc, .int .i64 least, .int .i64 ex, .bool needs] 32) := ⟨_, rfl⟩
      have HS1 := Lib.hid (show wo.heap.size < W1.heap.size by rw [eW1]; simp)
      have V0 := Lib.hid (show W1.cell? ⟨wo.heap.size, 0, none⟩ = some (.int .i64 num) from by rw [eW1]; exact World.cell?_alloc_new _ _ _ 0)
      have V8 := Lib.hid (show W1.cell? ⟨wo.heap.size, 8, none⟩ = some (.int .i64 ex) from by rw [eW1]; exact World.cell?_alloc_new _ _ _ 8)
      have HB1' := Lib.hid (show Below w.heap.size w W1 from by rw [eW1]; exact HBA.out)
      have HQ1 := Lib.hid (show SsAt Q W1 d q D from by rw [eW1]; exact HQ.out)
      rw [← eW1]
      clear eW1 hrun
      go_loopw [32] (fun i wr => ∃ j : Nat, j ≤ D.length ∧ i = .int .i64 j ∧ (∀ m (hm : m < D.length), m < j → confB set L[k] D[m] = false) ∧ Below W1.heap.size W1 wr) (fun i _ => D.length - (intOf i).toNat)
      case atStart => exact ⟨0, Nat.zero_le _, rfl, fun j hj h => absurd h (Nat.not_lt_zero j), Below.refl _ _⟩
      case round =>
        obtain ⟨wi, rfl⟩ : ∃ wi : World, wi = wr := ⟨_, rfl⟩
        obtain ⟨j, hj, rfl, hm, hbi⟩ := hrel
        have HM := Lib.hid hm
        have HBI := Lib.hid hbi
        have HBW := Lib.hid (bstep (Nat.le_refl _) HB1'.out hbi)
        have hx0 := (hbi.cell (p := ⟨wo.heap.size, 0, none⟩) HS1.out).trans V0.out
        have hx8 := (hbi.cell (p := ⟨wo.heap.size, 8, none⟩) HS1.out).trans V8.out
        have hlw := Nat.lt_of_lt_of_le HS1.out hbi.size
        have hj0 : (0 : Int) ≤ (j : Int) := Int.natCast_nonneg _
        by_cases hjk : j < D.length
        · have hj1 : (j : Int) < (D.length : Int) := by omega
          obtain ⟨b', off', y, rfl, hyl, hY, hyv⟩ := (HQ1.out.below hbi).at hjk
          have hyn := HNM.out j hjk
          have YU := Lib.hid hyv.num
          obtain ⟨y0, y1, y2, y3, y4, y5, y6, y7, y8, y9⟩ := hY
          obtain ⟨ynum, ynm, ⟨yo, ytn, ytm, ytp, ytl, ytc⟩, ybp, ybn, ybc, yleast, yex, yneeds⟩ := y
          simp only at y0 y1 y2 y3 y4 y5 y6 y7 y8 y9 YU
          rw [← YU.out] at hyn
          obtain ⟨g0, g15⟩ := hyn
          have HBJ := Lib.hid (balloc (Nat.le_refl _) hbi (.cells #[.int .i64 ynum, .string ynm, .int .i64 yo, .int .i64 ytn, .int .i64 ytm, .slice ytp ytl ytc, .slice ybp ybn ybc, .int .i64 yleast, .int .i64 yex, .bool yneeds] 32))
          have HBX := Lib.hid (balloc (Nat.le_refl _) HBW.out (.cells #[.int .i64 ynum, .string ynm, .int .i64 yo, .int .i64 ytn, .int .i64 ytm, .slice ytp ytl ytc, .slice ybp ybn ybc, .int .i64 yleast, .int .i64 yex, .bool yneeds] 32))
          obtain ⟨z1, e1⟩ : ∃ z, bitB set num = z := ⟨_, rfl⟩
          obtain ⟨z2, e2⟩ : ∃ z, bitB set ynum = z := ⟨_, rfl⟩
          obtain ⟨z3, e3⟩ : ∃ z, bitB ex ynum = z := ⟨_, rfl⟩
          have E1 : (bits BinOp.and IntKind.i64 (set / 2 ^ num.toNat) 1 == 1) = z1 := by rw [bit_one, e1]
          have E2 : (bits BinOp.and IntKind.i64 (set / 2 ^ ynum.toNat) 1 == 1) = z2 := by rw [bit_one, e2]
          have E3 : (bits BinOp.and IntKind.i64 (ex / 2 ^ ynum.toNat) 1 == 1) = z3 := by rw [bit_one, e3]
          have CB := Lib.hid (show confB set L[k] D[j] = (z1 && (z2 && z3)) from by unfold confB; rw [← RU.out, ← YU.out, ← RE.out, e1, e2, e3])
          clear hm hbi hyv e1 e2 e3
          have STEP := Lib.hid (fun (h : confB set L[k] D[j] = false) => show ∀ m (hm : m < D.length), m < j + 1 → confB set L[k] D[m] = false from fun m hm hmj => by
            by_cases e : m = j
            · subst e; exact h
            · exact HM.out m hm (by omega))
          cases z1
          · have HV := Lib.hid (STEP.out (by rw [CB.out]; rfl))
            go_wp2
            go_roundw
            case rel => exact ⟨j + 1, by omega, by go_num, HV.out, HBJ.out⟩
            case measure => simp [intOf]; omega
          cases z2
          · have HV := Lib.hid (STEP.out (by rw [CB.out]; rfl))
            go_wp2
            go_roundw
            case rel => exact ⟨j + 1, by omega, by go_num, HV.out, HBJ.out⟩
            case measure => simp [intOf]; omega
          cases z3
          · have HV := Lib.hid (STEP.out (by rw [CB.out]; rfl))
            go_wp2
            go_roundw
            case rel => exact ⟨j + 1, by omega, by go_num, HV.out, HBJ.out⟩
            case measure => simp [intOf]; omega
          · have HV := Lib.hid (HH.out j hjk HM.out (by rw [CB.out]; rfl))
            rw [← YU.out] at HV
            go_wp2
            obtain ⟨W2, eW2⟩ : ∃ W : World, W = wi.alloc (.cells #[.int .i64 ynum, .string ynm, .int .i64 yo, .int .i64 ytn, .int .i64 ytm, .slice ytp ytl ytc, .slice ybp ybn ybc, .int .i64 yleast, .int .i64 yex, .bool yneeds] 32) := ⟨_, rfl⟩
            have x0 : W2.cell? ⟨wo.heap.size, 0, none⟩ = some (.int .i64 num) := by rw [eW2]; exact (World.cell?_alloc_past _ _ _ hlw).trans hx0
            have x1 : W2.cell? ⟨wi.heap.size, 0, none⟩ = some (.int .i64 ynum) := by rw [eW2]; exact World.cell?_alloc_new _ _ _ 0
            have HB2 := Lib.hid (show Below w.heap.size w W2 from by rw [eW2]; exact HBX.out)
            rw [← eW2]
            clear eW2
            go_quiet (fail)
            go_wp2
            go_ret3
            exact ⟨by rw [HV.out]; rfl, HB2.out.trans ((drewN_below _ _).mono HB2.out.size)⟩
        · obtain rfl : j = D.length := by omega
          have HV := Lib.hid (HN.out fun m hm => HM.out m hm hm)
          clear hm hbi
          go_wp2
          go_roundw
          case rel => exact ⟨k + 1, by omega, by go_num, HV.out, HBW.out⟩
          case measure => simp [intOf]; omega
    · obtain rfl : k = L.length := by omega
      have HV := Lib.hid (show cv = none from by rw [HCV.out, conf1_end])
      clear hb
      go_wp2
      go_ret3
      exact ⟨by rw [HV.out]; rfl, HB.out⟩

end Go.Proofs.YtflcdkibjakciaaGreatDoor

namespace Go.Proofs.YtflcdkibjakciaaGreatDoor
namespace Wo
open Go.Lib

theorem idxFrom_any (p : Nat → Bool) (hp : ∀ x, 128 ≤ x → p x = true) (s : ByteArray) : ∀ (f pos : Nat), s.size ≤ pos + f → decide (0 ≤ idxFuncFrom p true s f pos) = (s.data.toList.drop pos).any fun c => p c.toNat
  | 0, pos, h => by
    have : s.data.toList.drop pos = [] := List.drop_of_length_le (by rw [Array.length_toList]; exact h)
    rw [this]
    simp [idxFuncFrom]
  | f + 1, pos, h => by
    unfold idxFuncFrom
    by_cases hlt : pos < s.size
    · have hd : s.data.toList.drop pos = s[pos] :: s.data.toList.drop (pos + 1) := by
        rw [List.drop_eq_getElem_cons (by simpa using hlt)]; rfl
      rw [if_pos hlt, hd, List.any_cons]
      by_cases ha : (s[pos]).toNat < 128
      · rw [decode_ascii s pos hlt ha]
        by_cases hq : p (s[pos]).toNat = true
        · rw [if_pos hq, hq]; simp
        · rw [if_neg hq, idxFrom_any p hp s f (pos + 1) (by omega)]
          rw [Bool.not_eq_true] at hq
          rw [hq, Bool.false_or]
      · have hq := hp _ (decode_high s pos hlt (by omega)).1
        rw [if_pos hq, hp (s[pos]).toNat (by omega)]; simp
    · have : s.data.toList.drop pos = [] := List.drop_of_length_le (by rw [Array.length_toList]; exact Nat.le_of_not_lt hlt)
      rw [if_neg hlt, this]; simp

/-- strings.ContainsFunc, where each rune of 128 or more is one. -/
theorem contains_any (p : Nat → Bool) (hp : ∀ x, 128 ≤ x → p x = true) (s : ByteArray) : decide (0 ≤ idxFunc p true s) = s.data.toList.any fun c => p c.toNat := by
  unfold idxFunc
  rw [idxFrom_any p hp s s.size 0 (by omega)]
  rfl

end Wo
end Go.Proofs.YtflcdkibjakciaaGreatDoor

namespace Go.Proofs.YtflcdkibjakciaaGreatDoor
open Go.RowKit

/-- What can't stand in a word. -/
def noB (x : Nat) : Bool := decide (x < 33) || (decide (126 < x) || decide (x = 35))

theorem noB_high (x : Nat) (h : 128 ≤ x) : noB x = true := by
  simp only [noB, Bool.or_eq_true, decide_eq_true_eq]; omega

theorem noB_okB (c : UInt8) : noB c.toNat = !okB c := by
  have e : (c == 35) = decide (c.toNat = 35) := by
    rw [Bool.eq_iff_iff, beq_iff_eq, decide_eq_true_eq]
    constructor
    · rintro rfl; rfl
    · intro h; exact UInt8.toNat_inj.1 (by rw [h]; rfl)
  rw [Bool.eq_iff_iff]
  simp only [noB, okB, e, Bool.or_eq_true, Bool.not_eq_true', Bool.and_eq_false_iff, Bool.not_eq_false', decide_eq_true_eq, decide_eq_false_iff_not]
  omega

theorem word_eq (s : ByteArray) (h : ¬ s.toList = []) : (!(decide (0 ≤ Lib.idxFunc noB true s))) = Wo.wordB s.data.toList := by
  rw [Wo.contains_any noB noB_high s, wordB_eq]
  have e : (!s.data.toList.isEmpty) = true := by
    rw [ByteArray.toList_eq] at h
    cases h2 : s.data.toList with
    | nil => exact absurd h2 h
    | cons a b => rfl
  rw [e, Bool.true_and]
  have : (fun c : UInt8 => noB c.toNat) = fun c => !okB c := funext noB_okB
  rw [this, List.all_eq_not_any_not]

set_option maxHeartbeats 2000000 in
theorem word1_any (x : Nat) (W : World) : Calls Tryz.prog 103 #[.int .i32 (x : Int)] W fun e w' => e = .returned (.bool (noB x)) ∧ W = w' := by
  have hx0 : (0 : Int) ≤ (x : Int) := Int.natCast_nonneg _
  by_cases h1 : x < 33
  · have HN := Lib.hid (show noB x = true by simp only [noB, Bool.or_eq_true, decide_eq_true_eq]; omega)
    have h1' : (x : Int) < 33 := by omega
    clear h1
    go_enter Tryz.func103, Tryz.ntmps103
    go_wp2
    go_ret
    exact ⟨ret_b HN.out.symm, rfl⟩
  have g1 : ¬ (x : Int) < 33 := by omega
  by_cases h2 : 126 < x
  · have HN := Lib.hid (show noB x = true by simp only [noB, Bool.or_eq_true, decide_eq_true_eq]; omega)
    have h2' : (126 : Int) < (x : Int) := by omega
    clear h1 h2
    go_enter Tryz.func103, Tryz.ntmps103
    go_wp2
    go_ret
    exact ⟨ret_b HN.out.symm, rfl⟩
  have g2 : ¬ (126 : Int) < (x : Int) := by omega
  by_cases h3 : x = 35
  · have HN := Lib.hid (show noB x = true by simp only [noB, Bool.or_eq_true, decide_eq_true_eq]; omega)
    have h3' : ((x : Int) == 35) = true := by rw [h3]; rfl
    clear h1 h2 h3
    go_enter Tryz.func103, Tryz.ntmps103
    go_wp2
    go_ret
    exact ⟨ret_b HN.out.symm, rfl⟩
  · have HN := Lib.hid (show noB x = false by simp only [noB, Bool.or_eq_false_iff, decide_eq_false_iff_not]; omega)
    have h3' : ((x : Int) == 35) = false := beq_eq_false_iff_ne.2 (by omega)
    clear h1 h2 h3
    go_enter Tryz.func103, Tryz.ntmps103
    go_wp2
    go_ret
    exact ⟨ret_b HN.out.symm, rfl⟩

def WdGive (b : Bool) (w : World) (e : Ending) (w' : World) : Prop := e = .returned (.bool b) ∧ Below w.heap.size w w'

theorem enters_word1 : ∀ args w, (callFunc 103 args).run Tryz.prog w = .ok (.enter 103 args) w := enters_of Tryz.func103 (by kernel_rfl) rfl

set_option maxHeartbeats 2000000 in
theorem word_any (s : ByteArray) (w : World) : Calls Tryz.prog 67 #[.string s] w (WdGive (Wo.wordB s.data.toList) w) := by
  have CF := Lib.hid (Tryz.strings_ContainsFunc_runes 103 #[] enters_word1 noB s w (fun W x _ _ => (word1_any x W).mono fun _ _ ⟨he, hw⟩ => ⟨he, 0, hw.symm⟩))
  by_cases h : s.toList = []
  · have HN := Lib.hid (show Wo.wordB s.data.toList = false by rw [wordB_eq]; rw [ByteArray.toList_eq] at h; rw [h]; rfl)
    go_enter Tryz.func67, Tryz.ntmps67
    go_wp2
    go_ret
    exact ⟨ret_b HN.out.symm, Below.refl _ _⟩
  · have h2 : s.toList.isEmpty = false := by cases h3 : s.toList with | nil => exact absurd h3 h | cons a b => rfl
    have HN := Lib.hid (word_eq s h)
    generalize decide (0 ≤ Lib.idxFunc noB true s) = bb at *
    go_enter Tryz.func67, Tryz.ntmps67
    go_wp2_with (first | (go_at_call 75; refine Calls.mono CF.out ?_; rintro e w1 ⟨rfl, hb⟩))
    go_ret
    exact ⟨ret_b HN.out, hb⟩

set_option maxHeartbeats 2000000 in
theorem notword_any (s : ByteArray) (w : World) : Calls Tryz.prog 66 #[.string s] w (WdGive (!Wo.wordB s.data.toList) w) := by
  have HW := Lib.hid (word_any s w)
  generalize Wo.wordB s.data.toList = bb at *
  go_enter Tryz.func66, Tryz.ntmps66
  go_wp2_with (first | (go_at_call 67; refine Calls.mono HW.out ?_; rintro e w1 ⟨rfl, hb⟩))
  go_ret
  exact ⟨rfl, hb⟩

def badB (y : ByteArray) : Bool := !Wo.wordB y.data.toList

def IxGive (ws : List ByteArray) (w : World) (e : Ending) (w' : World) : Prop := ∃ r : Int, e = .returned (.int .i64 r) ∧ decide (0 ≤ r) = ws.any badB ∧ -1 ≤ r ∧ Below w.heap.size w w'

theorem enters_bad : ∀ args w, (callFunc 66 args).run Tryz.prog w = .ok (.enter 66 args) w := enters_of Tryz.func66 (by kernel_rfl) rfl

set_option maxHeartbeats 2000000 in
theorem indexbad_any (q : Option Addr) (ws : List ByteArray) (c : Nat) (w : World) (h : Recs SB w q ws) :
    Calls Tryz.prog 102 #[.slice q ws.length c, .func (.func 66) #[] #[]] w (IxGive ws w) := by
  have hl := h.len
  have HR := Lib.hid h
  have en := enters_bad
  clear h
  go_enter Tryz.func102, Tryz.ntmps102
  go_wp2
  go_loopw [8] (fun i wr => ∃ k : Nat, k ≤ ws.length ∧ i = .int .i64 k ∧ (ws.take k).any badB = false ∧ Below w.heap.size w wr) (fun i _ => ws.length - (intOf i).toNat)
  case atStart => exact ⟨0, Nat.zero_le _, rfl, rfl, Below.refl _ _⟩
  case round =>
    obtain ⟨wo, rfl⟩ : ∃ wo : World, wo = wr := ⟨_, rfl⟩
    obtain ⟨k, hk, rfl, ha, hb⟩ := hrel
    have HA := Lib.hid ha
    have HB := Lib.hid hb
    have hk0 : (0 : Int) ≤ (k : Int) := Int.natCast_nonneg _
    by_cases hlt : k < ws.length
    · have hk1 : (k : Int) < (ws.length : Int) := by omega
      obtain ⟨b1, o1, rfl, -, hc1⟩ := (HR.out.below hb).word hlt
      have HS := Lib.hid (show (ws.take (k + 1)).any badB = badB ws[k] by
        rw [List.take_succ_eq_append_getElem hlt, List.any_append, HA.out, Bool.false_or]; simp)
      have HM := Lib.hid (show badB ws[k] = true → ws.any badB = true from fun e => List.any_eq_true.2 ⟨ws[k], List.getElem_mem hlt, e⟩)
      obtain ⟨y, ey⟩ : ∃ y, ws[k] = y := ⟨_, rfl⟩
      simp only [ey] at hc1 HS HM
      clear ey ha hb
      have CN := Lib.hid (notword_any y wo)
      obtain ⟨bb, ebb⟩ : ∃ x, badB y = x := ⟨_, rfl⟩
      have CN2 := Lib.hid (show Calls Tryz.prog 66 #[.string y] wo (WdGive bb wo) by rw [← ebb]; exact CN.out)
      rw [ebb] at HS HM
      clear CN ebb
      cases bb
      · go_wp2_with (first | (go_at_call 66; refine Calls.mono CN2.out ?_; rintro e w1 ⟨rfl, hb1⟩))
        go_roundw
        case rel => exact ⟨k + 1, by omega, by go_num, HS.out, HB.out.trans (hb1.mono HB.out.size)⟩
        case measure => simp [intOf]; omega
      · go_wp2_with (first | (go_at_call 66; refine Calls.mono CN2.out ?_; rintro e w1 ⟨rfl, hb1⟩))
        go_ret
        exact ⟨(k : Int), rfl, by rw [HM.out trivial]; exact decide_eq_true hk0, by omega, HB.out.trans (hb1.mono HB.out.size)⟩
    · obtain rfl : k = ws.length := by omega
      rw [List.take_of_length_le (Nat.le_refl _)] at ha
      have HA2 := Lib.hid ha
      clear ha
      go_wp2
      go_ret
      exact ⟨-1, rfl, by rw [HA2.out]; rfl, by omega, HB.out⟩

set_option maxHeartbeats 2000000 in
theorem containsbad_any (q : Option Addr) (ws : List ByteArray) (c : Nat) (w : World) (h : Recs SB w q ws) :
    Calls Tryz.prog 65 #[.slice q ws.length c, .func (.func 66) #[] #[]] w (WdGive (ws.any badB) w) := by
  have CI := Lib.hid (indexbad_any q ws c w h)
  clear h
  go_enter Tryz.func65, Tryz.ntmps65
  go_wp2_with (first | (go_at_call 102; refine Calls.mono CI.out ?_; rintro e w1 ⟨r, rfl, hr, hr1, hb⟩; have HR := Lib.hid hr; clear hr))
  go_ret
  exact ⟨ret_b HR.out, hb⟩

end Go.Proofs.YtflcdkibjakciaaGreatDoor
