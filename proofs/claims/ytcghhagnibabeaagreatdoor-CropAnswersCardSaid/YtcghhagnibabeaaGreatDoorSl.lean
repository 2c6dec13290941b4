/-
  THE ITERATOR of strings.Lines: it keeps what is left of the text in a captured cell; each round hands the next line to yield.
-/
import Derived.Test.YtcghhagnibabeaaGreatDoorW8
import Derived.RangeFuncNested
import Derived.RangeFuncBound
import Derived.RangeFuncCalls
import Derived.RangeFuncLeaves
import Derived.Shelf.Abstract
import Derived.Shelf.RegionOpen
import Derived.WalkKit
import Derived.OwnWalkIn
import Derived.TacticsInMore
import Derived.LoopNIn
import Derived.LoopIn
namespace Go.Proofs.YtcghhagnibabeaaGreatDoor
open Go.RowKit Go.Shelf
attribute [local go_sem] Oper.semAt_some

def strIn (W : World) (b : Nat) : Nat := strOf ((W.cell? ⟨b, 0, none⟩).getD undef)

theorem strIn_eq {W : World} {b : Nat} {t : ByteArray} (h : W.cell? ⟨b, 0, none⟩ = some (.string t)) : strIn W b = t.size := by
  unfold strIn; rw [h]; rfl

set_option maxRecDepth 100000 in
set_option maxHeartbeats 4000000 in
/-- THE ITERATOR, at whatever rounds keep their word: 'J t W': t is what is left. -/
theorem lines1_in (n l b : Nat) (s : ByteArray) (hn : 1 ≤ n) (J : ByteArray → World → Prop) (hD : ∀ t W, J t W → J t W.drew) (hS : ∀ t W v, J t W → J t (W.setCell ⟨b, 0, none⟩ v))
    (hL : ∀ t W, J t W → t.size ≤ 16384 ∧ (t.data.toList = [] ∨ t.data.toList.getLast? = some 10))
    (hY : ∀ t o W, J t W → Lib.indexByte t.data.toList 10 = ((o : Nat) : Int) → o < t.size → W.cell? ⟨b, 0, none⟩ = some (.string (t.extract (o + 1) t.size)) → W.frozen? ⟨b, 0, none⟩ = false →
      YieldAt Fence.wide (n - 1) Tryz.prog l #[.string (t.extract 0 (o + 1))] W fun e W' => e = .returned (.bool true) ∧ J (t.extract (o + 1) t.size) W' ∧ W'.cell? ⟨b, 0, none⟩ = some (.string (t.extract (o + 1) t.size)) ∧ W'.frozen? ⟨b, 0, none⟩ = false)
    (W : World) (hc : W.cell? ⟨b, 0, none⟩ = some (.string s)) (hf : W.frozen? ⟨b, 0, none⟩ = false) (h0 : J s W) :
    CallsIn Fence.wide n Tryz.prog 89 #[.func (.yield l) #[] #[], .pointer (some ⟨b, 0, none⟩)] W fun e W' => (∃ v, e = .returned v) ∧ ∃ t, t.data.toList = [] ∧ J t W' := by
  refine callsIn_of_wp Tryz.func89 rfl trivial ?_ rfl
  simp only [Tryz.ntmps89, List.size_toArray, List.length_cons, List.length_nil, Nat.reduceAdd, Nat.reduceSub, Array.replicate_succ, Array.replicate_zero, List.push_toArray, List.append_toArray, List.nil_append, List.cons_append]
  gi_wp2
  gi_loopw [3] (fun v wr => ∃ t, wr.cell? ⟨b, 0, none⟩ = some (.string t) ∧ wr.frozen? ⟨b, 0, none⟩ = false ∧ J t wr) (fun _ wr => strIn wr b)
  case atStart => exact ⟨s, hc, hf, h0⟩
  case round =>
    obtain ⟨wo, rfl⟩ : ∃ wo : World, wo = wr := ⟨_, rfl⟩
    obtain ⟨t, hct, hft, hJ⟩ := hrel
    obtain ⟨hsz, hnl⟩ := hL t wo hJ
    by_cases he : t.data.toList = []
    · have hz : ¬ (0 : Int) < (t.size : Int) := by have := size_len t; rw [he] at this; simp at this; omega
      have HJ := Lib.hid hJ
      have HE := Lib.hid he
      clear hJ he hnl hY hL
      gi_wp2
      go_end0
      exact ⟨⟨_, rfl⟩, t, by simpa using HE.out, HJ.out⟩
    · obtain ⟨o, ho, hol⟩ := Wo.ix_of_last (hnl.resolve_left he)
      rw [size_len] at hol
      have hp : (0 : Int) < (t.size : Int) := by omega
      have hoz : (0 : Int) ≤ (o : Int) := Int.natCast_nonneg _
      have I1 := Lib.hid (fun (V : World) => by have k := index10_any t V; rw [ho] at k; exact k)
      have HJ := Lib.hid hJ
      have HO := Lib.hid ho
      clear hJ ho he hnl hL
      gi_wp2_with (refine ⟨trivial, ?_⟩; gi_at_call 80; refine (callsIn_wide.2 (I1.out _)).mono ?_; rintro e w1 ⟨rfl, hw⟩; obtain rfl := hw.symm)
      have hmx : Tryz.prog.follows .mixedOrders = true := by kernel_rfl
      have hb1 : (o : Int) + 1 ≤ (t.size : Int) := by omega
      have hb2 : (0 : Int) ≤ (o : Int) + 1 := by omega
      have hw1 : wrap64 ((o : Int) + 1) = (o : Int) + 1 := by unfold wrap64; omega
      have hb3 : ¬ ((o : Int) + 1 < 0) := by omega
      gi_region
      trace_state
      all_goals
        have HL2 := Lib.hid (show strIn (wo.setCell ⟨b, 0, none⟩ (.string (t.extract (o + 1) t.size))).drew b = t.size ∨ True from .inr trivial)
        have hc2 : (wo.setCell ⟨b, 0, none⟩ (.string (t.extract (o + 1) t.size))).drew.cell? ⟨b, 0, none⟩ = some (.string (t.extract (o + 1) t.size)) := by
          rw [cell_drew_own]; exact World.cell?_setCell_same' _ _ _ (by rw [hct]; rfl)
        have hf2 : (wo.setCell ⟨b, 0, none⟩ (.string (t.extract (o + 1) t.size))).drew.frozen? ⟨b, 0, none⟩ = false := by
          rw [frozen_drew_own, World.frozen?_setCell]; exact hft
        have hJ2 := hD _ _ (hS t wo (.string (t.extract (o + 1) t.size)) HJ.out)
        generalize (wo.setCell ⟨b, 0, none⟩ (.string (t.extract (o + 1) t.size))).drew = w2 at *
        obtain ⟨fn, tmps, assign, body, hy, hR⟩ := hY t o w2 hJ2 HO.out hol hc2 hf2
        have hm : (t.extract (o + 1) t.size).size < t.size := by
          have h1 := size_len (t.extract (o + 1) t.size)
          rw [Lib.extract_data, List.take_of_length_le (by rw [List.length_drop, size_len]; exact Nat.le_refl _), List.length_drop, size_len] at h1
          omega
        have hms := strIn_eq hct
        clear hY hS hD HL2 HJ HO hJ2 hc2 hf2 hct hft
        gi_wp2
        refine hR.mono ?_
        rintro e W3 ⟨rfl, hJ3, hc3, hf3⟩
        gi_wp2
        go_roundw
        case rel => exact ⟨_, hc3, hf3, hJ3⟩
        case measure => rw [strIn_eq hc3, hms]; exact hm
end Go.Proofs.YtcghhagnibabeaaGreatDoor
