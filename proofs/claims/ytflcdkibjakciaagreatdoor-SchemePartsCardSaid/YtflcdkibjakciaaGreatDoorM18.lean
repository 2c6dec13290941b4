/-
  MERGED (mergek.py): the texts Wb, W11, Sl, Sm, S1.
-/
import Derived.Test.YtflcdkibjakciaaGreatDoorShelf
import Derived.Test.YtflcdkibjakciaaGreatDoorM17
import Derived.Test.YtflcdkibjakciaaGreatDoorW8
import Derived.RangeFuncNested
import Derived.RangeFuncBound
import Derived.RangeFuncCalls
import Derived.RangeFuncLeaves
import Derived.Shelf.Abstract
import Derived.Shelf.RegionOpen
import Derived.WalkKit
import Derived.OwnWalkIn
import Derived.TacticsInMore
import Derived.LoopNIn
import Derived.LoopIn

namespace Go.Proofs.YtflcdkibjakciaaGreatDoor
open Go.Shelf Go.RowKit

def ren167 : Go.Shelf.Ren := ⟨fun n => if n = 167 then 70 else Tryz.lays156_ren.f n, Tryz.lays156_ren.t, Tryz.lays156_ren.g⟩

theorem lays166 : Go.Proofs.Lays.n166 Tryz.prog Tryz.lays156_ren := { Tryz.lays156 with }

theorem lays167 : Go.Proofs.Lays.n167 Tryz.prog ren167 := {
  mixed := by kernel_rfl
  f167 := Tryz.func70.trans (congrArg some (by kernel_rfl))
  f240 := Tryz.func104.trans (congrArg some (by kernel_rfl))
  f276 := Tryz.func133.trans (congrArg some (by kernel_rfl))
  t0 := Tryz.lays156.t0
  a0 := Tryz.lays156.a0
  z0 := Tryz.lays156.z0
  v0 := Tryz.lays156.v0
  t4 := Tryz.lays156.t4
  a4 := Tryz.lays156.a4
  z4 := Tryz.lays156.z4
  v4 := Tryz.lays156.v4
  t5 := Tryz.Builder_Extra_156.t5
  a5 := Tryz.Builder_Extra_156.a5
  z5 := Tryz.Builder_Extra_156.z5
  v5 := Tryz.Builder_Extra_156.v5
  t9 := Tryz.lays156.t9
  a9 := Tryz.lays156.a9
  z9 := Tryz.lays156.z9
  v9 := Tryz.lays156.v9
  t20 := Tryz.lays156.t20
  a20 := Tryz.lays156.a20
  z20 := Tryz.lays156.z20
  v20 := Tryz.lays156.v20
  t37 := Tryz.lays156.t37
  a37 := Tryz.lays156.a37
  z37 := Tryz.lays156.z37
  v37 := Tryz.lays156.v37
  t70 := Tryz.lays156.t70
  a70 := Tryz.lays156.a70
  z70 := Tryz.lays156.z70
  v70 := Tryz.lays156.v70
  t72 := Tryz.lays156.t72
  a72 := Tryz.lays156.a72
  z72 := Tryz.lays156.z72
  v72 := Tryz.lays156.v72
  t75 := Tryz.lays156.t75
  a75 := Tryz.lays156.a75
  z75 := Tryz.lays156.z75
  v75 := Tryz.lays156.v75
  t164 := Tryz.lays156.t164
  a164 := Tryz.lays156.a164
  z164 := Tryz.lays156.z164
  v164 := Tryz.lays156.v164 }

theorem extra167 : Builder.Extra Tryz.prog ren167 := {
  sizeBuilder := by kernel_rfl
  liesBuilder := by kernel_rfl
  t5 := Tryz.Builder_Extra_156.t5
  a5 := Tryz.Builder_Extra_156.a5
  z5 := Tryz.Builder_Extra_156.z5
  v5 := Tryz.Builder_Extra_156.v5
  infoByte := by kernel_rfl
  cellsByte := by kernel_rfl
  sizeByte := by kernel_rfl
  neB5 := by decide }

theorem bwriteString (B b : Nat) (bs : List Value) (s : ByteArray) (w : World) (h : Lib.IsBuilderF 101 5 B b bs w) (hlen : bs.length + s.size ≤ 140737488355328) (hBw : B ≤ w.heap.size) :
    Calls Tryz.prog 68 #[.pointer (some ⟨b, 0, none⟩), .string s] w fun e w' => e = .returned (.tuple #[.int .i64 s.size, .nilIface]) ∧ (Lib.BuilderAtF 101 5 B b (.pointer (some ⟨b, 0, none⟩)) (bs ++ Lib.strCells s) w' ∧ Below B w w' ∧ Lib.OthersKept 5 (some b) w w') :=
  Any.Builder_WriteString_k lays166 Tryz.Builder_Extra_156 B b bs s w h hlen hBw

theorem bwriteByte (B b : Nat) (bs : List Value) (c : Int) (w : World) (h : Lib.IsBuilderF 101 5 B b bs w) (hlen : bs.length + 1 ≤ 140737488355328) (hBw : B ≤ w.heap.size) :
    Calls Tryz.prog 70 #[.pointer (some ⟨b, 0, none⟩), .int .u8 c] w fun e w' => e = .returned .nilIface ∧ (Lib.BuilderAtF 101 5 B b (.pointer (some ⟨b, 0, none⟩)) (bs ++ [.int .u8 c]) w' ∧ Below B w w' ∧ Lib.OthersKept 5 (some b) w w') :=
  Any.Builder_WriteByte_k lays167 extra167 B b bs c w h hlen hBw

end Go.Proofs.YtflcdkibjakciaaGreatDoor

namespace Go.Proofs.YtflcdkibjakciaaGreatDoor
open Go.RowKit

abbrev BdAt (B b : Nat) (l : List UInt8) (w : World) : Prop := Lib.IsBuilderF 101 5 B b (Lib.byteCells l) w

theorem grown_of_below {w w' : World} (h : Below w.heap.size w w') : w.grownBy w' none := ⟨h.os, h.tape, h.output, h.size, fun k hk _ => h.block k hk⟩

theorem bdAtF_below {T e : TypeId} {B b : Nat} {p : Value} {bs : List Value} {w w' : World} (h : Lib.BuilderAtF T e B b p bs w) (hb : Below w.heap.size w w') : Lib.BuilderAtF T e B b p bs w' := by
  have hlt := h.lt
  obtain ⟨hB, v, hc, hown, hne⟩ := h
  exact ⟨hB, v, (hb.block b hlt).trans hc, hown.kept (grown_of_below hb) (by cases hv : v.ownBlock <;> simp), hne⟩

theorem BdAt.below {B b : Nat} {l : List UInt8} {w w' : World} (h : BdAt B b l w) (hb : Below w.heap.size w w') : BdAt B b l w' :=
  h.elim (fun x => .inl (bdAtF_below x hb)) (fun x => .inr (bdAtF_below x hb))

theorem BdAt.new (w : World) : BdAt w.heap.size w.heap.size [] (w.alloc (.cells #[.pointer none, .slice none 0 0] 101)) :=
  Lib.IsBuilderF.of (.inl ⟨Nat.le_refl _, .slice none 0 0, heap_alloc_new w _, World.ownsRow_nil _ _ _ _, by simp [Value.ownBlock]⟩)

theorem byteCells_app (l : List UInt8) (s : ByteArray) : Lib.byteCells l ++ Lib.strCells s = Lib.byteCells (l ++ s.data.toList) := by
  unfold Lib.byteCells Lib.strCells; rw [List.map_append]
theorem byteCells_one (l : List UInt8) : Lib.byteCells l ++ [.int .u8 10] = Lib.byteCells (l ++ [10]) := by
  unfold Lib.byteCells; rw [List.map_append]; rfl
theorem byteCells_len (l : List UInt8) : (Lib.byteCells l).length = l.length := by unfold Lib.byteCells; rw [List.length_map]

theorem any_bad (ws : List ByteArray) : ws.any badB = !((ws.map (·.data.toList)).all Wo.wordB) := by
  rw [List.all_eq_not_any_not, Bool.not_not, List.any_map]
  rfl

set_option maxRecDepth 100000 in
set_option maxHeartbeats 8000000 in
theorem join_any (LL : List (List ByteArray)) (p : Option Addr) (c : Nat) (w : World) (h : LinesAt w p LL) (hT : (Wo.jText (lb LL)).length ≤ 1099511627776) (hz : ∀ ws ∈ LL, ws.length ≤ 1099511627776) :
    Calls Tryz.prog 38 #[.slice p LL.length c] w (JoinGive LL w) := by
  have HL := Lib.hid h
  by_cases h4 : 400 < LL.length
  · have HF := Lib.hid (join_bad (jErr_long h4) (by decide) w w (Below.refl _ _))
    have h4' : (400 : Int) < (LL.length : Int) := by omega
    clear h h4
    go_enter Tryz.func38, Tryz.ntmps38
    go_wp2
    go_ret2
    exact HF.out
  have g4 : ¬ (400 : Int) < (LL.length : Int) := by omega
  have H4 := Lib.hid (show LL.length ≤ 400 by omega)
  have HT := Lib.hid hT
  have HZ := Lib.hid hz
  have B0 := Lib.hid (BdAt.new w)
  have BB0 := Lib.hid (show Below w.heap.size w (w.alloc (.cells #[.pointer none, .slice none 0 0] 101)) from (Below.refl _ _).alloc (Nat.le_refl _) _)
  clear h h4 hT hz
  go_enter Tryz.func38, Tryz.ntmps38
  go_wp2
  go_loopw [12] (fun i wr => ∃ k : Nat, k ≤ LL.length ∧ i = .int .i64 k ∧ BdAt w.heap.size w.heap.size (Wo.jText (lb (LL.take k))) wr ∧ ((lb (LL.take k)).all fun ws => ws.all Wo.wordB) = true ∧ Below w.heap.size w wr) (fun i _ => LL.length - (intOf i).toNat)
  case atStart => exact ⟨0, Nat.zero_le _, rfl, B0.out, rfl, BB0.out⟩
  case round =>
    obtain ⟨wo, rfl⟩ : ∃ wo : World, wo = wr := ⟨_, rfl⟩
    obtain ⟨k, hk, rfl, hx, hall, hb⟩ := hrel
    have HX := Lib.hid hx
    have HA := Lib.hid hall
    have HB := Lib.hid hb
    have hk0 : (0 : Int) ≤ (k : Int) := Int.natCast_nonneg _
    by_cases hlt : k < LL.length
    · have hk1 : (k : Int) < (LL.length : Int) := by omega
      obtain ⟨b1, o1, q1, n1, d1, rfl, -, hc1, rfl, hr1, -, hle⟩ := (HL.out.below hb).at hlt
      have HS := Lib.hid (lb_snoc LL k hlt)
      have hmem := List.getElem_mem hlt
      obtain ⟨ws, ews⟩ : ∃ y, LL[k] = y := ⟨_, rfl⟩
      simp only [ews] at hc1 hr1 hle HS hmem
      have hwn := HZ.out ws hmem
      have HR := Lib.hid hr1
      have HLE := Lib.hid hle
      have CB := Lib.hid (containsbad_any q1 ws d1 wo hr1)
      by_cases hbad : ws.any badB = true
      · obtain ⟨y, hy, hyb⟩ := List.any_eq_true.1 hbad
        have he := jErr_bad H4.out hmem hy (by unfold badB at hyb; simpa using hyb)
        rw [hbad] at CB
        clear ews hx hall hb hmem hr1 hle hbad hy hyb
        go_wp2_with (first | (go_at_call 65; refine Calls.mono CB.out ?_; rintro e w1 ⟨rfl, hb1⟩; have HF := Lib.hid (join_bad he (by decide) w w1 (HB.out.trans (hb1.mono HB.out.size))); clear he))
        go_ret2
        exact HF.out
      · have hgood : (ws.map (·.data.toList)).all Wo.wordB = true := by
          rw [any_bad] at hbad; simpa using hbad
        rw [Bool.not_eq_true] at hbad
        rw [hbad] at CB
        clear ews hx hall hb hmem hr1 hle hbad
        have hJ : (Wo.jText (lb (LL.take (k + 1)))) = Wo.jText (lb (LL.take k)) ++ Lib.join (ws.map (·.data.toList)) [32] ++ [10] := by rw [HS.out, Wo.jText_snoc, List.append_assoc]
        have hJl : (Wo.jText (lb (LL.take k))).length + (Lib.join (ws.map (·.data.toList)) [32]).length + 1 ≤ 1099511627776 := by
          have h1 := congrArg List.length hJ
          rw [List.length_append, List.length_append] at h1
          have h2 := jText_take (lb LL) (k + 1)
          rw [← lb_take] at h2
          have h3 := HT.out
          simp only [List.length_singleton] at h1
          omega
        have HA2 := Lib.hid (show ((lb (LL.take (k + 1))).all fun ws => ws.all Wo.wordB) = true by
          rw [HS.out, List.all_append, HA.out, Bool.true_and]; simp only [List.all_cons, List.all_nil, Bool.and_true]; exact hgood)
        have CJ := Lib.hid (fun (W : World) (h : Recs SB W q1 ws) => join32_any q1 ws d1 W h HLE.out (by omega) (by omega))
        unfold JnGive at CJ
        have HJ := Lib.hid hJ
        clear hgood hJ
        obtain ⟨tx, etx⟩ : ∃ y, Wo.jText (lb (LL.take k)) = y := ⟨_, rfl⟩
        obtain ⟨jl, ejl⟩ : ∃ y, Lib.join (ws.map (·.data.toList)) [32] = y := ⟨_, rfl⟩
        rw [etx, ejl] at HJ hJl
        rw [etx] at HX
        rw [ejl] at CJ
        clear etx ejl
        go_wp2_with (first | (go_at_call 65; refine Calls.mono CB.out ?_; rintro e w1 ⟨rfl, hb1⟩) | (go_at_call 69; refine Calls.mono (CJ.out _ (HR.out.below hb1)) ?_; rintro e w2 ⟨rfl, hb2⟩; have X2 := Lib.hid (BdAt.below (BdAt.below HX.out hb1) hb2); have B2 := Lib.hid (bst (Nat.le_refl _) (bst (Nat.le_refl _) HB.out hb1) hb2)) | (go_at_call 68; refine Calls.mono (bwriteString _ _ _ _ _ X2.out (by rw [byteCells_len]; show _ + jl.toArray.size ≤ _; simp; omega) B2.out.size) ?_; rintro e w3 ⟨rfl, hx3, hb3, -⟩; rw [byteCells_app] at hx3; have X3 := Lib.hid (show BdAt w.heap.size w.heap.size (tx ++ jl) w3 from .inr hx3); have B3 := Lib.hid (B2.out.trans hb3); clear hx3 hb3) | (go_at_call 70; refine Calls.mono (bwriteByte _ _ _ _ _ X3.out (by rw [byteCells_len, List.length_append]; omega) B3.out.size) ?_; rintro e w4 ⟨rfl, hx4, hb4, -⟩; rw [byteCells_one] at hx4; have X4 := Lib.hid (show BdAt w.heap.size w.heap.size (tx ++ jl ++ [10]) w4 from .inr hx4); have B4 := Lib.hid (B3.out.trans hb4); clear hx4 hb4))
        go_roundw
        case rel => exact ⟨k + 1, by omega, by go_num, by rw [HJ.out]; exact X4.out, HA2.out, B4.out⟩
        case measure => simp [intOf]; omega
    · obtain rfl : k = LL.length := by omega
      rw [List.take_of_length_le (Nat.le_refl _)] at hx hall
      have CL := Lib.hid (fun (W : World) (h : BdAt w.heap.size w.heap.size (Wo.jText (lb LL)) W) => Tryz.Builder_Len_f _ _ _ W h)
      rw [byteCells_len] at CL
      by_cases hbig : 16384 < (Wo.jText (lb LL)).length
      · have he : Wo.jErr (lb LL) = 1 := by
          unfold Wo.jErr
          rw [if_neg (by rw [lb_len]; have := H4.out; omega), if_neg (by rw [hall]; simp), if_pos hbig]
        have HF := Lib.hid (join_bad he (by decide) w wo HB.out)
        have HX3 := Lib.hid hx
        clear hx hall hb he HX
        obtain ⟨tl, etl⟩ : ∃ n : Nat, (Wo.jText (lb LL)).length = n := ⟨_, rfl⟩
        rw [etl] at CL hbig
        have hbig' : (16384 : Int) < (tl : Int) := by omega
        clear etl hbig
        go_wp2_with (first | (go_at_call 71; refine Calls.mono (CL.out _ HX3.out) ?_; rintro e w1 ⟨rfl, hw⟩; obtain rfl := hw.symm))
        go_ret2
        exact HF.out
      · have he : Wo.jErr (lb LL) = 0 := by
          unfold Wo.jErr
          rw [if_neg (by rw [lb_len]; have := H4.out; omega), if_neg (by rw [hall]; simp), if_neg hbig]
        have HJO := Lib.hid (show Wo.jOut (lb LL) = Wo.jText (lb LL) by unfold Wo.jOut; rw [if_pos he])
        have HE := Lib.hid he
        have HX3 := Lib.hid hx
        have CS := Lib.hid (Tryz.Builder_String_any_k _ _ _ wo hx HB.out.size)
        clear hx hall hb he HX
        obtain ⟨tl, etl⟩ : ∃ n : Nat, (Wo.jText (lb LL)).length = n := ⟨_, rfl⟩
        rw [etl] at CL hbig
        have hbig' : ¬ (16384 : Int) < (tl : Int) := by omega
        clear etl hbig
        go_wp2_with (first | (go_at_call 71; refine Calls.mono (CL.out _ HX3.out) ?_; rintro e w1 ⟨rfl, hw⟩; obtain rfl := hw.symm) | (go_at_call 72; refine Calls.mono CS.out ?_; rintro e w2 ⟨rfl, -, hb2, -⟩))
        go_ret2
        exact ⟨ret_si (by rw [HJO.out]) HE.out.symm, HB.out.trans hb2⟩

end Go.Proofs.YtflcdkibjakciaaGreatDoor

namespace Go.Proofs.YtflcdkibjakciaaGreatDoor
open Go.RowKit Go.Shelf
attribute [local go_sem] Oper.semAt_some

def strIn (W : World) (b : Nat) : Nat := strOf ((W.cell? ⟨b, 0, none⟩).getD undef)

theorem strIn_eq {W : World} {b : Nat} {t : ByteArray} (h : W.cell? ⟨b, 0, none⟩ = some (.string t)) : strIn W b = t.size := by
  unfold strIn; rw [h]; rfl

set_option maxRecDepth 100000 in
set_option maxHeartbeats 4000000 in
/-- THE ITERATOR, at whatever rounds keep their word: 'J t W': t is what is left. -/
theorem lines1_in (n l b : Nat) (s : ByteArray) (hn : 1 ≤ n) (J : ByteArray → World → Prop) (hD : ∀ t W, J t W → J t W.drew) (hS : ∀ t W v, J t W → J t (W.setCell ⟨b, 0, none⟩ v))
    (hL : ∀ t W, J t W → t.size ≤ 16384 ∧ (t.data.toList = [] ∨ t.data.toList.getLast? = some 10))
    (hY : ∀ t o W, J t W → Lib.indexByte t.data.toList 10 = ((o : Nat) : Int) → o < t.size → W.cell? ⟨b, 0, none⟩ = some (.string (t.extract (o + 1) t.size)) → W.frozen? ⟨b, 0, none⟩ = false →
      YieldAt Fence.wide (n - 1) Tryz.prog l #[.string (t.extract 0 (o + 1))] W fun e W' => e = .returned (.bool true) ∧ J (t.extract (o + 1) t.size) W' ∧ W'.cell? ⟨b, 0, none⟩ = some (.string (t.extract (o + 1) t.size)) ∧ W'.frozen? ⟨b, 0, none⟩ = false)
    (W : World) (hc : W.cell? ⟨b, 0, none⟩ = some (.string s)) (hf : W.frozen? ⟨b, 0, none⟩ = false) (h0 : J s W) :
    CallsIn Fence.wide n Tryz.prog 111 #[.func (.yield l) #[] #[], .pointer (some ⟨b, 0, none⟩)] W fun e W' => (∃ v, e = .returned v) ∧ ∃ t, t.data.toList = [] ∧ J t W' := by
  refine callsIn_of_wp Tryz.func111 rfl trivial ?_ rfl
  simp only [Tryz.ntmps111, List.size_toArray, List.length_cons, List.length_nil, Nat.reduceAdd, Nat.reduceSub, Array.replicate_succ, Array.replicate_zero, List.push_toArray, List.append_toArray, List.nil_append, List.cons_append]
  gi_wp2
  gi_loopw [3] (fun v wr => ∃ t, wr.cell? ⟨b, 0, none⟩ = some (.string t) ∧ wr.frozen? ⟨b, 0, none⟩ = false ∧ J t wr) (fun _ wr => strIn wr b)
  case atStart => exact ⟨s, hc, hf, h0⟩
  case round =>
    obtain ⟨wo, rfl⟩ : ∃ wo : World, wo = wr := ⟨_, rfl⟩
    obtain ⟨t, hct, hft, hJ⟩ := hrel
    obtain ⟨hsz, hnl⟩ := hL t wo hJ
    by_cases he : t.data.toList = []
    · have hz : ¬ (0 : Int) < (t.size : Int) := by have := size_len t; rw [he] at this; simp at this; omega
      have HJ := Lib.hid hJ
      have HE := Lib.hid he
      clear hJ he hnl hY hL
      gi_wp2
      go_end0
      exact ⟨⟨_, rfl⟩, t, by simpa using HE.out, HJ.out⟩
    · obtain ⟨o, ho, hol⟩ := Wo.ix_of_last (hnl.resolve_left he)
      rw [size_len] at hol
      have hp : (0 : Int) < (t.size : Int) := by omega
      have hoz : (0 : Int) ≤ (o : Int) := Int.natCast_nonneg _
      have I1 := Lib.hid (fun (V : World) => by have k := index10_any t V; rw [ho] at k; exact k)
      have HJ := Lib.hid hJ
      have HO := Lib.hid ho
      clear hJ ho he hnl hL
      gi_wp2_with (refine ⟨trivial, ?_⟩; gi_at_call 93; refine (callsIn_wide.2 (I1.out _)).mono ?_; rintro e w1 ⟨rfl, hw⟩; obtain rfl := hw.symm)
      have hmx : Tryz.prog.follows .mixedOrders = true := by kernel_rfl
      have hb1 : (o : Int) + 1 ≤ (t.size : Int) := by omega
      have hb2 : (0 : Int) ≤ (o : Int) + 1 := by omega
      have hw1 : wrap64 ((o : Int) + 1) = (o : Int) + 1 := by unfold wrap64; omega
      have hb3 : ¬ ((o : Int) + 1 < 0) := by omega
      gi_region
      trace_state
      all_goals
        have HL2 := Lib.hid (show strIn (wo.setCell ⟨b, 0, none⟩ (.string (t.extract (o + 1) t.size))).drew b = t.size ∨ True from .inr trivial)
        have hc2 : (wo.setCell ⟨b, 0, none⟩ (.string (t.extract (o + 1) t.size))).drew.cell? ⟨b, 0, none⟩ = some (.string (t.extract (o + 1) t.size)) := by
          rw [cell_drew_own]; exact World.cell?_setCell_same' _ _ _ (by rw [hct]; rfl)
        have hf2 : (wo.setCell ⟨b, 0, none⟩ (.string (t.extract (o + 1) t.size))).drew.frozen? ⟨b, 0, none⟩ = false := by
          rw [frozen_drew_own, World.frozen?_setCell]; exact hft
        have hJ2 := hD _ _ (hS t wo (.string (t.extract (o + 1) t.size)) HJ.out)
        generalize (wo.setCell ⟨b, 0, none⟩ (.string (t.extract (o + 1) t.size))).drew = w2 at *
        obtain ⟨fn, tmps, assign, body, hy, hR⟩ := hY t o w2 hJ2 HO.out hol hc2 hf2
        have hm : (t.extract (o + 1) t.size).size < t.size := by
          have h1 := size_len (t.extract (o + 1) t.size)
          rw [Lib.extract_data, List.take_of_length_le (by rw [List.length_drop, size_len]; exact Nat.le_refl _), List.length_drop, size_len] at h1
          omega
        have hms := strIn_eq hct
        clear hY hS hD HL2 HJ HO hJ2 hc2 hf2 hct hft
        gi_wp2
        refine hR.mono ?_
        rintro e W3 ⟨rfl, hJ3, hc3, hf3⟩
        gi_wp2
        go_roundw
        case rel => exact ⟨_, hc3, hf3, hJ3⟩
        case measure => rw [strIn_eq hc3, hms]; exact hm
end Go.Proofs.YtflcdkibjakciaaGreatDoor

namespace Go.Proofs.YtflcdkibjakciaaGreatDoor
open Go.RowKit Go.Shelf
attribute [local go_sem] Oper.semAt_some

/-- The rest of a text behind its first o + 1 bytes. -/
def restOf (t : ByteArray) (o : Nat) : ByteArray := t.extract (o + 1) t.size

/-- What a round's body leaves: it goes on; t is left. -/
def lineQ (b : Nat) (I : ByteArray → World → Prop) (t : ByteArray) (W : World) : Exit → Act → World → Prop
  | .normal, _, W' => KeepsOthers W W' ∧ I t W' ∧ W'.cell? ⟨b, 0, none⟩ = some (.string t) ∧ W'.frozen? ⟨b, 0, none⟩ = false
  | _, _, _ => False

theorem lines_enters : ∀ args w, (callFunc 111 args).run Tryz.prog w = .ok (.enter 111 args) w :=
  enters_of Tryz.func111 (by kernel_rfl) rfl

theorem wpIn_lines {n : Nat} {g : Operand} {ps : Array Tmp} {assign body : Code} {Q : Exit → Act → World → Prop} {a : Act} {w : World} (hn : 2 ≤ n) (b : Nat) (s : ByteArray)
    (hg : a.eval g = .func (.func 111) #[] #[.pointer (some ⟨b, 0, none⟩)]) (hps : ps.size = 1) (hb : b < w.heap.size) (hc : w.cell? ⟨b, 0, none⟩ = some (.string s)) (hf : w.frozen? ⟨b, 0, none⟩ = false)
    (I : ByteArray → World → Prop) (hI : OwnFrom w.heap.size I) (hD : ∀ t W, I t W → I t W.drew) (hS : ∀ t W v, I t W → I t (W.setCell ⟨b, 0, none⟩ v))
    (hL : ∀ t W, I t W → t.size ≤ 16384 ∧ (t.data.toList = [] ∨ t.data.toList.getLast? = some 10)) (h0 : I s w) (a₁ : ByteArray → Act)
    (hassign : ∀ (l : Nat) (x : ByteArray) (W : World) (K : Act → World → Prop), K (a₁ x) W →
      assign.wpIn (Fence.wide.inRound l) (n - 1 - 1) Tryz.prog (Exit.then K (fun _ _ _ => False)) { tmps := (ps.zip #[Value.string x]).foldl (fun t (p, v) => t.setIfInBounds p v) a.tmps, defers := [] } W)
    (hbody : ∀ (l : Nat) (t : ByteArray) (o : Nat) (W : World), I t W → Lib.indexByte t.data.toList 10 = ((o : Nat) : Int) → o < t.size → W.cell? ⟨b, 0, none⟩ = some (.string (restOf t o)) → W.frozen? ⟨b, 0, none⟩ = false →
      body.wpIn (Fence.wide.inRound l) (n - 1 - 1) Tryz.prog (lineQ b I (restOf t o) W) (a₁ (t.extract 0 (o + 1))) W)
    (hdone : ∀ (D : Nat) (t : ByteArray) (W : World), w.heap.size ≤ D → t.data.toList = [] → I t W → W.heap[D]? = some (.deferred (some [])) → Q .normal { a with defers := { target := .collected D, args := #[] } :: a.defers } W) :
    (Code.rangeFunc g ps assign body).wpIn Fence.wide n Tryz.prog Q a w := by
  refine wpIn_rangeFunc ?_
  intro fn hfn
  obtain ⟨rec, hrec⟩ : ∃ rec : LoopState → Option Code → Loop, rec = fun st pe => { state := st, pending := pe, fn, tmps := a.tmps, params := ps, assign, body, defers := w.heap.size } := ⟨_, rfl⟩
  obtain ⟨W1, hW1⟩ : ∃ W1, (w.alloc (.deferred (some []))).alloc (.loop (rec .ready none)) = W1 := ⟨_, rfl⟩
  have hL1 : W1.heap[w.heap.size + 1]? = some (.loop (rec .ready none)) := by
    rw [← hW1]; have := World.alloc_heap_new (w.alloc (.deferred (some []))) (.loop (rec .ready none)); rwa [World.size_alloc] at this
  have hK1 : W1.heap[w.heap.size]? = some (.deferred (some [])) := by
    rw [← hW1]; exact (Below.heap_alloc _ _ _ (by simp)).trans (World.alloc_heap_new w _)
  have hI1 : I s W1 := by rw [← hW1]; exact hI.alloc _ (hI.alloc _ h0)
  have hb1 : Below w.heap.size w W1 := by
    rw [← hW1]; exact ((Below.refl _ w).alloc (Nat.le_refl _) _).alloc (by simp) _
  have hcb : W1.cell? ⟨b, 0, none⟩ = some (.string s) := (hb1.cell (p := ⟨b, 0, none⟩) hb).trans hc
  have hfb : W1.frozen? ⟨b, 0, none⟩ = false := (hb1.frozen (p := ⟨b, 0, none⟩) hb).trans hf
  refine ⟨w.heap.size + 1, [{ target := .collected w.heap.size, args := #[] }], W1, { target := .fn (.func 111) #[.pointer (some ⟨b, 0, none⟩)], args := #[.func (.yield (w.heap.size + 1)) #[] #[]] }, W1, 111,
    #[.func (.yield (w.heap.size + 1)) #[] #[]] ++ #[.pointer (some ⟨b, 0, none⟩)], W1, ?_, ?_, ?_, ?_, fun _ => by omega, ?_⟩
  · rw [← hW1, hrec]; exact run_enterLoop_outer _ _ _ _ _
  · simp only [resolve, hg]
    simp [go_sem]
  · intro f' hf'; exact trivial
  · simp [invoke, go_sem]
  · refine (lines1_in (n - 1) (w.heap.size + 1) b s (by omega) (fun t W => I t W ∧ W.heap[w.heap.size + 1]? = some (.loop (rec .ready none)) ∧ W.heap[w.heap.size]? = some (.deferred (some [])))
      (fun t W h => ⟨hD _ _ h.1, h.2⟩) (fun t W v h => ⟨hS _ _ _ h.1, (KeepsOthers.setCell W _ v).same _ _ h.2.1 rfl, (KeepsOthers.setCell W _ v).same _ _ h.2.2 rfl⟩) (fun t W h => hL t W h.1) ?_ W1 hcb hfb ⟨hI1, hL1, hK1⟩).mono ?_
    · rintro t o W ⟨hi, hl, hk⟩ ho hol hcW hfW
      have hlt : w.heap.size + 1 < W.heap.size := (Array.getElem?_eq_some_iff.1 hl).1
      have hy := run_yield (P := Tryz.prog) (args := #[Value.string (t.extract 0 (o + 1))]) hl (by rw [hrec]; exact hps.symm)
      rw [hrec] at hy
      refine ⟨fn, _, assign, body, hy, roundIn_of_wpIn hfn (hassign _ _ W _ ⟨_, run_beginRound hl (by rw [hrec]), ?_⟩)⟩
      have hl2 : (W.putObj (w.heap.size + 1) (.loop { rec .ready none with state := .busy })).heap[w.heap.size + 1]? = some (.loop { rec .ready none with state := .busy }) := World.putObj_heap_same hlt
      have hk2 : (W.putObj (w.heap.size + 1) (.loop { rec .ready none with state := .busy })).heap[w.heap.size]? = some (.deferred (some [])) := (World.putObj_heap_other (by omega)).trans hk
      have hg2 := grownBy_putObj' W (w.heap.size + 1) (.loop { rec .ready none with state := .busy })
      have hr2 : ∀ r, some (w.heap.size + 1) = some r → ∃ o : Obj, W.heap[r]? = some o ∧ o.isCells = false := fun r e => by cases e; exact ⟨_, hl, rfl⟩
      refine wpIn_mono (hbody _ t o _ (hI.putObj _ hi (by omega) hl rfl) ho hol (cell_kept hcW hg2 hr2) ((frozen_kept hcW hg2 hr2).trans hfW)) ?_
      rintro e a3 W3 hp
      cases e with
      | normal =>
        obtain ⟨hk3, hi3, hc3, hf3⟩ := hp
        have hl3 := hk3.same _ _ hl2 rfl
        have hr := run_endRound (P := Tryz.prog) none hl3
        have hg3 := grownBy_putObj' W3 (w.heap.size + 1) (.loop (rec .ready none))
        have hr3 : ∀ r, some (w.heap.size + 1) = some r → ∃ o : Obj, W3.heap[r]? = some o ∧ o.isCells = false := fun r e => by cases e; exact ⟨_, hl3, rfl⟩
        refine ⟨_, W3.putObj (w.heap.size + 1) (.loop (rec .ready none)), by rw [hrec] at hr ⊢; exact hr, rfl, ⟨hI.putObj _ hi3 (by omega) hl3 rfl, World.putObj_heap_same (Array.getElem?_eq_some_iff.1 hl3).1, (World.putObj_heap_other (by omega)).trans (hk3.same _ _ hk2 rfl)⟩, cell_kept hc3 hg3 hr3, (frozen_kept hc3 hg3 hr3).trans hf3⟩
      | ret => exact hp.elim
      | exit id => exact hp.elim
      | goto t => exact hp.elim
      | panic ch => exact hp.elim
      | outgrown => exact hp.elim
    · rintro e W2 ⟨⟨v, rfl⟩, t, ht, hi, hl, hk⟩
      exact ⟨none, _, by have := run_endLoop (P := Tryz.prog) hl (by rw [hrec]; simp); rw [hrec] at this; exact this, hdone _ t _ (Nat.le_refl _) ht (hI.putObj _ hi (by omega) hl rfl) ((World.putObj_heap_other (by omega)).trans hk)⟩
end Go.Proofs.YtflcdkibjakciaaGreatDoor

namespace Go.Proofs.YtflcdkibjakciaaGreatDoor
open Go.RowKit Go.Shelf Go.Sort

set_option maxRecDepth 100000 in
theorem empty_any (s : ByteArray) (w : World) : Calls Tryz.prog 83 #[.string s] w fun e w' => e = .returned (.bool s.toList.isEmpty) ∧ w' = w := by
  by_cases h : s.toList = []
  · have h2 : s.toList.isEmpty = true := by rw [h]; rfl
    rw [h2]
    go_enter Tryz.func83, Tryz.ntmps83
    go_wp2
    go_ret
    exact ⟨rfl, rfl⟩
  · have h2 : s.toList.isEmpty = false := by cases e : s.toList with | nil => exact absurd e h | cons a b => rfl
    rw [h2]
    go_enter Tryz.func83, Tryz.ntmps83
    go_wp2
    go_ret
    exact ⟨rfl, rfl⟩

theorem keeps_putRow {α : Type} [Inhabited α] (enc : α → Value) (w : World) (q blk off : Nat) (d : Array α) (hb : ∃ c T, w.heap[blk]? = some (.cells c T)) : KeepsOthers w (putRow enc (Sort.ahead w q) blk off d) := by
  obtain ⟨c, T, hb⟩ := hb
  refine ⟨by simp [putRow, mapBlock, Sort.ahead], fun k o hk ho => ?_⟩
  by_cases e : k = blk
  · subst e; rw [hb] at hk; cases hk; cases ho
  · simp only [putRow, mapBlock, Sort.ahead, Array.getElem?_modify, if_neg (Ne.symm e)]
    exact hk

theorem below_putRow {α : Type} [Inhabited α] (enc : α → Value) (w : World) (q blk off : Nat) (d : Array α) : Below blk w (putRow enc (Sort.ahead w q) blk off d) := by
  refine ⟨rfl, rfl, rfl, by simp [putRow, mapBlock, Sort.ahead], fun k hk => ?_⟩
  simp only [putRow, mapBlock, Sort.ahead, Array.getElem?_modify, if_neg (show ¬ blk = k by omega)]

def DelGive (W : World) (B : Nat) (ws : List ByteArray) (e : Ending) (w' : World) : Prop :=
  e = .returned (.slice (some ⟨B, 0, none⟩) (ws.filter neB).length ws.length) ∧ Recs SB w' (some ⟨B, 0, none⟩) (ws.filter neB) ∧ Below B W w' ∧ KeepsOthers W w'

theorem getElem!_arr {α : Type} [Inhabited α] (l : List α) (j : Nat) (h : j < l.length) : l.toArray[j]! = l[j] := by
  rw [getElem!_pos l.toArray j (by simpa using h)]; simp

theorem delete_any (W : World) (B : Nat) (ws : List ByteArray) (hws : ws.length ≤ 16385) (hB : W.heap[B]? = some (.cells (SB.flat ws).toArray 9)) (hf : ∀ j, j < ws.length → W.frozen? ⟨B, j, none⟩ = false) :
    Calls Tryz.prog 81 #[.slice (some ⟨B, 0, none⟩) ws.length ws.length, .func (.func 83) #[] #[]] W (DelGive W B ws) := by
  have hl : (SB.flat ws).length = ws.length := by rw [flat_str, List.length_map]
  have hc : ∀ j, j < ws.length → W.cell? ⟨B, j, none⟩ = some (.string ws[j]!) := fun j hj => by
    have : ws[j]! = ws[j] := getElem!_pos ws j hj
    rw [this]
    simp only [World.cell?, hB]
    rw [flat_str]
    simp [hj]
  have hH : Holds Value.string W B 0 ws.toArray := fun j hj => by
    have hj' : j < ws.length := by simpa using hj
    refine ⟨?_, by rw [Nat.zero_add]; exact hf j hj'⟩
    rw [Nat.zero_add, hc j hj', getElem!_arr ws j hj', getElem!_pos ws j hj']
  have K := Tryz.slices_DeleteFunc (α := ByteArray) Value.string (fun _ => rfl) (fun x => x.toList.isEmpty) 83 #[] (enters_of Tryz.func83 (by kernel_rfl) rfl) ⟨#[]⟩ Tryz.zeroValue9 B 0 ws.length ws.toArray W
    (fun V x _ => (empty_any x V).mono fun e w' ⟨he, hw⟩ => ⟨he, 0, hw⟩) (fun n os dk x _ => (empty_any x _).mono fun e w' ⟨he, hw⟩ => ⟨he, 0, hw⟩) hH (by simp; omega) (by simp)
  simp only [List.size_toArray] at K
  refine K.mono fun e w' ⟨he, q, hw⟩ => ?_
  have hfl : (ws.filter neB).length ≤ ws.length := List.length_filter_le _ _
  have hsz : (((ws.filter neB) ++ List.replicate (ws.length - (ws.filter neB).length) (⟨#[]⟩ : ByteArray)).toArray).size = ws.toArray.size := by simp; omega
  refine ⟨he, ?_, by rw [hw]; exact below_putRow _ _ _ _ _ _, by rw [hw]; exact keeps_putRow _ _ _ _ _ _ ⟨_, _, hB⟩⟩
  have hlt : B < W.heap.size := (Array.getElem?_eq_some_iff.1 hB).1
  refine Recs.of_cells (by unfold maxLen; omega) (by rw [hw]; exact Nat.lt_of_lt_of_le hlt (below_putRow _ _ _ _ _ _).size) fun n u hu => ?_
  rw [flat_str] at hu
  have hn : n < (ws.filter neB).length := by
    have := (List.getElem?_eq_some_iff.1 hu).1
    simpa using this
  rw [List.getElem?_map, List.getElem?_eq_getElem hn] at hu
  have hu' : u = .string (ws.filter neB)[n] := by simpa using hu.symm
  rw [hw, hu']
  have h3 := cell?_putRow Value.string (Sort.ahead W q) B 0 ws.toArray _ (holds_ahead _ _ _ _ _ _ hH) hsz n (by rw [hsz]; simp; omega)
  refine h3.trans ?_
  rw [getElem!_arr _ _ (by simp; omega), List.getElem_append_left hn]
end Go.Proofs.YtflcdkibjakciaaGreatDoor
