/-
  THE WALK over words.Join.
-/
import Derived.Test.YtcghhagnibabeaaGreatDoorW10
import Derived.Test.YtcghhagnibabeaaGreatDoorWb
namespace Go.Proofs.YtcghhagnibabeaaGreatDoor
open Go.RowKit

abbrev BdAt (B b : Nat) (l : List UInt8) (w : World) : Prop := Lib.IsBuilderF 77 5 B b (Lib.byteCells l) w

theorem grown_of_below {w w' : World} (h : Below w.heap.size w w') : w.grownBy w' none := ⟨h.os, h.tape, h.output, h.size, fun k hk _ => h.block k hk⟩

theorem bdAtF_below {T e : TypeId} {B b : Nat} {p : Value} {bs : List Value} {w w' : World} (h : Lib.BuilderAtF T e B b p bs w) (hb : Below w.heap.size w w') : Lib.BuilderAtF T e B b p bs w' := by
  have hlt := h.lt
  obtain ⟨hB, v, hc, hown, hne⟩ := h
  exact ⟨hB, v, (hb.block b hlt).trans hc, hown.kept (grown_of_below hb) (by cases hv : v.ownBlock <;> simp), hne⟩

theorem BdAt.below {B b : Nat} {l : List UInt8} {w w' : World} (h : BdAt B b l w) (hb : Below w.heap.size w w') : BdAt B b l w' :=
  h.elim (fun x => .inl (bdAtF_below x hb)) (fun x => .inr (bdAtF_below x hb))

theorem BdAt.new (w : World) : BdAt w.heap.size w.heap.size [] (w.alloc (.cells #[.pointer none, .slice none 0 0] 77)) :=
  Lib.IsBuilderF.of (.inl ⟨Nat.le_refl _, .slice none 0 0, heap_alloc_new w _, World.ownsRow_nil _ _ _ _, by simp [Value.ownBlock]⟩)

theorem byteCells_app (l : List UInt8) (s : ByteArray) : Lib.byteCells l ++ Lib.strCells s = Lib.byteCells (l ++ s.data.toList) := by
  unfold Lib.byteCells Lib.strCells; rw [List.map_append]
theorem byteCells_one (l : List UInt8) : Lib.byteCells l ++ [.int .u8 10] = Lib.byteCells (l ++ [10]) := by
  unfold Lib.byteCells; rw [List.map_append]; rfl
theorem byteCells_len (l : List UInt8) : (Lib.byteCells l).length = l.length := by unfold Lib.byteCells; rw [List.length_map]

theorem any_bad (ws : List ByteArray) : ws.any badB = !((ws.map (·.data.toList)).all Wo.wordB) := by
  rw [List.all_eq_not_any_not, Bool.not_not, List.any_map]
  rfl

set_option maxRecDepth 100000 in
set_option maxHeartbeats 8000000 in
theorem join_any (LL : List (List ByteArray)) (p : Option Addr) (c : Nat) (w : World) (h : LinesAt w p LL) (hT : (Wo.jText (lb LL)).length ≤ 1099511627776) (hz : ∀ ws ∈ LL, ws.length ≤ 1099511627776) :
    Calls Tryz.prog 35 #[.slice p LL.length c] w (JoinGive LL w) := by
  have HL := Lib.hid h
  by_cases h4 : 400 < LL.length
  · have HF := Lib.hid (join_bad (jErr_long h4) (by decide) w w (Below.refl _ _))
    have h4' : (400 : Int) < (LL.length : Int) := by omega
    clear h h4
    go_enter Tryz.func35, Tryz.ntmps35
    go_wp2
    go_ret2
    exact HF.out
  have g4 : ¬ (400 : Int) < (LL.length : Int) := by omega
  have H4 := Lib.hid (show LL.length ≤ 400 by omega)
  have HT := Lib.hid hT
  have HZ := Lib.hid hz
  have B0 := Lib.hid (BdAt.new w)
  have BB0 := Lib.hid (show Below w.heap.size w (w.alloc (.cells #[.pointer none, .slice none 0 0] 77)) from (Below.refl _ _).alloc (Nat.le_refl _) _)
  clear h h4 hT hz
  go_enter Tryz.func35, Tryz.ntmps35
  go_wp2
  go_loopw [12] (fun i wr => ∃ k : Nat, k ≤ LL.length ∧ i = .int .i64 k ∧ BdAt w.heap.size w.heap.size (Wo.jText (lb (LL.take k))) wr ∧ ((lb (LL.take k)).all fun ws => ws.all Wo.wordB) = true ∧ Below w.heap.size w wr) (fun i _ => LL.length - (intOf i).toNat)
  case atStart => exact ⟨0, Nat.zero_le _, rfl, B0.out, rfl, BB0.out⟩
  case round =>
    obtain ⟨wo, rfl⟩ : ∃ wo : World, wo = wr := ⟨_, rfl⟩
    obtain ⟨k, hk, rfl, hx, hall, hb⟩ := hrel
    have HX := Lib.hid hx
    have HA := Lib.hid hall
    have HB := Lib.hid hb
    have hk0 : (0 : Int) ≤ (k : Int) := Int.natCast_nonneg _
    by_cases hlt : k < LL.length
    · have hk1 : (k : Int) < (LL.length : Int) := by omega
      obtain ⟨b1, o1, q1, n1, d1, rfl, -, hc1, rfl, hr1, -, hle⟩ := (HL.out.below hb).at hlt
      have HS := Lib.hid (lb_snoc LL k hlt)
      have hmem := List.getElem_mem hlt
      obtain ⟨ws, ews⟩ : ∃ y, LL[k] = y := ⟨_, rfl⟩
      simp only [ews] at hc1 hr1 hle HS hmem
      have hwn := HZ.out ws hmem
      have HR := Lib.hid hr1
      have HLE := Lib.hid hle
      have CB := Lib.hid (containsbad_any q1 ws d1 wo hr1)
      by_cases hbad : ws.any badB = true
      · obtain ⟨y, hy, hyb⟩ := List.any_eq_true.1 hbad
        have he := jErr_bad H4.out hmem hy (by unfold badB at hyb; simpa using hyb)
        rw [hbad] at CB
        clear ews hx hall hb hmem hr1 hle hbad hy hyb
        go_wp2_with (first | (go_at_call 53; refine Calls.mono CB.out ?_; rintro e w1 ⟨rfl, hb1⟩; have HF := Lib.hid (join_bad he (by decide) w w1 (HB.out.trans (hb1.mono HB.out.size))); clear he))
        go_ret2
        exact HF.out
      · have hgood : (ws.map (·.data.toList)).all Wo.wordB = true := by
          rw [any_bad] at hbad; simpa using hbad
        rw [Bool.not_eq_true] at hbad
        rw [hbad] at CB
        clear ews hx hall hb hmem hr1 hle hbad
        have hJ : (Wo.jText (lb (LL.take (k + 1)))) = Wo.jText (lb (LL.take k)) ++ Lib.join (ws.map (·.data.toList)) [32] ++ [10] := by rw [HS.out, Wo.jText_snoc, List.append_assoc]
        have hJl : (Wo.jText (lb (LL.take k))).length + (Lib.join (ws.map (·.data.toList)) [32]).length + 1 ≤ 1099511627776 := by
          have h1 := congrArg List.length hJ
          rw [List.length_append, List.length_append] at h1
          have h2 := jText_take (lb LL) (k + 1)
          rw [← lb_take] at h2
          have h3 := HT.out
          simp only [List.length_singleton] at h1
          omega
        have HA2 := Lib.hid (show ((lb (LL.take (k + 1))).all fun ws => ws.all Wo.wordB) = true by
          rw [HS.out, List.all_append, HA.out, Bool.true_and]; simp only [List.all_cons, List.all_nil, Bool.and_true]; exact hgood)
        have CJ := Lib.hid (fun (W : World) (h : Recs SB W q1 ws) => join32_any q1 ws d1 W h HLE.out (by omega) (by omega))
        unfold JnGive at CJ
        have HJ := Lib.hid hJ
        clear hgood hJ
        obtain ⟨tx, etx⟩ : ∃ y, Wo.jText (lb (LL.take k)) = y := ⟨_, rfl⟩
        obtain ⟨jl, ejl⟩ : ∃ y, Lib.join (ws.map (·.data.toList)) [32] = y := ⟨_, rfl⟩
        rw [etx, ejl] at HJ hJl
        rw [etx] at HX
        rw [ejl] at CJ
        clear etx ejl
        go_wp2_with (first | (go_at_call 53; refine Calls.mono CB.out ?_; rintro e w1 ⟨rfl, hb1⟩) | (go_at_call 44; refine Calls.mono (CJ.out _ (HR.out.below hb1)) ?_; rintro e w2 ⟨rfl, hb2⟩; have X2 := Lib.hid (BdAt.below (BdAt.below HX.out hb1) hb2); have B2 := Lib.hid (bst (Nat.le_refl _) (bst (Nat.le_refl _) HB.out hb1) hb2)) | (go_at_call 56; refine Calls.mono (bwriteString _ _ _ _ _ X2.out (by rw [byteCells_len]; show _ + jl.toArray.size ≤ _; simp; omega) B2.out.size) ?_; rintro e w3 ⟨rfl, hx3, hb3, -⟩; rw [byteCells_app] at hx3; have X3 := Lib.hid (show BdAt w.heap.size w.heap.size (tx ++ jl) w3 from .inr hx3); have B3 := Lib.hid (B2.out.trans hb3); clear hx3 hb3) | (go_at_call 57; refine Calls.mono (bwriteByte _ _ _ _ _ X3.out (by rw [byteCells_len, List.length_append]; omega) B3.out.size) ?_; rintro e w4 ⟨rfl, hx4, hb4, -⟩; rw [byteCells_one] at hx4; have X4 := Lib.hid (show BdAt w.heap.size w.heap.size (tx ++ jl ++ [10]) w4 from .inr hx4); have B4 := Lib.hid (B3.out.trans hb4); clear hx4 hb4))
        go_roundw
        case rel => exact ⟨k + 1, by omega, by go_num, by rw [HJ.out]; exact X4.out, HA2.out, B4.out⟩
        case measure => simp [intOf]; omega
    · obtain rfl : k = LL.length := by omega
      rw [List.take_of_length_le (Nat.le_refl _)] at hx hall
      have CL := Lib.hid (fun (W : World) (h : BdAt w.heap.size w.heap.size (Wo.jText (lb LL)) W) => Tryz.Builder_Len_f _ _ _ W h)
      rw [byteCells_len] at CL
      by_cases hbig : 16384 < (Wo.jText (lb LL)).length
      · have he : Wo.jErr (lb LL) = 1 := by
          unfold Wo.jErr
          rw [if_neg (by rw [lb_len]; have := H4.out; omega), if_neg (by rw [hall]; simp), if_pos hbig]
        have HF := Lib.hid (join_bad he (by decide) w wo HB.out)
        have HX3 := Lib.hid hx
        clear hx hall hb he HX
        obtain ⟨tl, etl⟩ : ∃ n : Nat, (Wo.jText (lb LL)).length = n := ⟨_, rfl⟩
        rw [etl] at CL hbig
        have hbig' : (16384 : Int) < (tl : Int) := by omega
        clear etl hbig
        go_wp2_with (first | (go_at_call 58; refine Calls.mono (CL.out _ HX3.out) ?_; rintro e w1 ⟨rfl, hw⟩; obtain rfl := hw.symm))
        go_ret2
        exact HF.out
      · have he : Wo.jErr (lb LL) = 0 := by
          unfold Wo.jErr
          rw [if_neg (by rw [lb_len]; have := H4.out; omega), if_neg (by rw [hall]; simp), if_neg hbig]
        have HJO := Lib.hid (show Wo.jOut (lb LL) = Wo.jText (lb LL) by unfold Wo.jOut; rw [if_pos he])
        have HE := Lib.hid he
        have HX3 := Lib.hid hx
        have CS := Lib.hid (Tryz.Builder_String_any_k _ _ _ wo hx HB.out.size)
        clear hx hall hb he HX
        obtain ⟨tl, etl⟩ : ∃ n : Nat, (Wo.jText (lb LL)).length = n := ⟨_, rfl⟩
        rw [etl] at CL hbig
        have hbig' : ¬ (16384 : Int) < (tl : Int) := by omega
        clear etl hbig
        go_wp2_with (first | (go_at_call 58; refine Calls.mono (CL.out _ HX3.out) ?_; rintro e w1 ⟨rfl, hw⟩; obtain rfl := hw.symm) | (go_at_call 59; refine Calls.mono CS.out ?_; rintro e w2 ⟨rfl, -, hb2, -⟩))
        go_ret2
        exact ⟨ret_si (by rw [HJO.out]) HE.out.symm, HB.out.trans hb2⟩

end Go.Proofs.YtcghhagnibabeaaGreatDoor
