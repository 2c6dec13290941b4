/-
  words.Split at the empty text: the same walk (printed by gens6.py).
-/
import Derived.Test.YtcghhagnibabeaaGreatDoorME
namespace Go.Proofs.YtcghhagnibabeaaGreatDoor
open Go.RowKit Go.Shelf Go.Sort
attribute [local go_sem] Oper.semAt_some
attribute [-go_sem] Builtin.append_

set_option maxRecDepth 100000 in
set_option maxHeartbeats 8000000 in
theorem split_empty (s : ByteArray) (w : World) (hE : Env w) (hs : s.size ≤ 16384) (hc4 : ¬ 400 < s.data.toList.count 10) (hse : s.toList = []) : Calls Tryz.prog 36 #[.string s] w (SplitGive s w) := by
  have g1 : ¬ (16384 : Int) < (s.size : Int) := by omega
  have C1 := Lib.hid (fun (W : World) => Tryz.strings_Count_one s 10 W)
  obtain ⟨cn, ecn⟩ : ∃ n : Nat, Lib.countByte s.data.toList 10 = n := ⟨_, rfl⟩
  have ecn' : s.data.toList.count 10 = cn := ecn
  rw [ecn] at C1
  have g2 : ¬ (400 : Int) < (cn : Int) := by omega
  have h1 : s.toList.isEmpty = true := by rw [hse]; rfl
  have hd0 : s.data.toList = [] := by rw [← ByteArray.toList_eq]; exact hse
  have hpl : s.data.toList.all Wo.plainB = true := by rw [hd0]; rfl
  have C3 := Lib.hid (fun (W : World) => notplain_any s W)
  rw [hpl, Bool.not_true] at C3
  have HD0 := Lib.hid hd0
  have HPL := Lib.hid hpl
  have HC4 := Lib.hid hc4
  have HEN := Lib.hid hE
  clear hd0 hpl hc4 hE ecn ecn'
  refine (callsIn_wide (n := 5)).1 ?_
  refine callsIn_of_wp_marks Tryz.func36 rfl trivial ?_ rfl
  simp only [Tryz.ntmps36, List.size_toArray, List.length_cons, List.length_nil, Nat.reduceAdd, Nat.reduceSub, Array.replicate_succ, Array.replicate_zero, List.push_toArray, List.append_toArray, List.nil_append, List.cons_append]
  gi_wp2_with (first
    | (refine ⟨trivial, ?_⟩; gi_at_call 60; refine (callsIn_wide.2 (C1.out _)).mono ?_; rintro e w1 ⟨rfl, hw⟩; obtain rfl := hw.symm)
    | (fail))
  refine ⟨trivial, ?_⟩
  gi_wp2_with (first
    | (refine ⟨trivial, ?_⟩; gi_at_call 62; refine (callsIn_wide.2 (C3.out _)).mono ?_; rintro e wB ⟨rfl, hb⟩)
    | (refine ⟨trivial, ?_⟩; gi_at_call 65; refine (callsIn_wide.2 (lines_any s _)).mono ?_; rintro e w3 ⟨rfl, hw3⟩))
  have hz0 : ((wB.alloc (.cells #[.slice none 0 0] 57)).alloc (.cells #[.string s] 9)).heap.size = wB.heap.size + 2 := by rw [World.size_alloc, World.size_alloc]
  have hE2 := Lib.hid (HEN.out.below hb)
  refine wpIn_lines (n := 5) (by omega) (wB.heap.size + 1) s rfl rfl (by rw [hz0]; omega) ?hc ?hf (LI s wB) (by rw [hz0]; exact LI.own) (fun _ _ h => h.drew) (fun _ _ v h => h.set v) (fun t W h => ⟨h.sz, ?hnl⟩) ?h0
    (fun x => { tmps := #[.string s, undef, .slice none 0 0, .int .i64 0, .pointer (some ⟨wB.heap.size, 0, none⟩), .string x, .string s, .int .i64 (s.size : Int), .bool false, .bool false, .string s, .int .i64 (cn : Int), .bool (decide ((400 : Int) < (cn : Int))), .bool (decide ((400 : Int) < (cn : Int))), .string s, .bool false, .bool false, undef, undef, undef, .bool false, .bool false, .string s, .bool false, .bool false, .string s, .func (.func 89) #[] #[.pointer (some ⟨wB.heap.size + 1, 0, none⟩)], .string x, undef, undef, undef, undef, undef, undef, undef, undef, undef, undef, undef, undef, undef, undef], defers := [] }) ?assign ?body ?done
  case hc => rw [← World.size_alloc wB (.cells #[.slice none 0 0] 57)]; exact (box_new _ _ _).1
  case hf => rw [← World.size_alloc wB (.cells #[.slice none 0 0] 57)]; exact (box_new _ _ _).2
  case hnl =>
    obtain ⟨v, dn, H, hr, -⟩ := h.st
    exact hr.nl
  case h0 =>
    have hcn := box_new wB (.slice none 0 0) 57
    have hb0 : Below wB.heap.size wB ((wB.alloc (.cells #[.slice none 0 0] 57)).alloc (.cells #[.string s] 9)) := ((Below.refl _ wB).alloc (Nat.le_refl _) _).alloc (by simp) _
    exact ⟨⟨_, [], [], ⟨rfl, .inl HD0.out, OwnR.nil _ _ _, rfl, fun k hk => by simp at hk, fun k hk => by simp at hk, hb0⟩, OwnR.nil _ _ _, fun k hk => by simp at hk, (Below.cell (((Below.refl _ _).alloc (Nat.le_refl _) _) : Below (wB.alloc (.cells #[.slice none 0 0] 57)).heap.size _ _) (p := ⟨wB.heap.size, 0, none⟩) (by simp)).trans hcn.1⟩, (Below.frozen (((Below.refl _ _).alloc (Nat.le_refl _) _) : Below (wB.alloc (.cells #[.slice none 0 0] 57)).heap.size _ _) (p := ⟨wB.heap.size, 0, none⟩) (by simp)).trans hcn.2, hs, by rw [hz0]; omega⟩
  case assign =>
    intro l x W K hK
    gi_wp2
    exact hK
  case body =>
    rintro l t o W hI ho hol hcb hfb
    have HI := Lib.hid hI
    have hEW : Env W := by
      obtain ⟨v, dn, H, hr, -⟩ := hI.st
      exact hE2.out.below hr.below
    have T1 := Lib.hid (trim_any t o ho hol hI.sz W)
    have HW := Lib.hid hEW
    have HO := Lib.hid ho
    clear hI hEW ho
    gi_wp2_with (first
      | (refine ⟨trivial, ?_⟩; gi_at_call 67; refine (CallsIn.inRound l (callsIn_wide.2 T1.out)).mono ?_; rintro e w1 ⟨⟨l0, hl0, hz1, rfl⟩, hw⟩; obtain rfl := hw.symm; clear T1)
      | (refine ⟨trivial, ?_⟩; gi_at_call 66; refine (CallsIn.inRound l (callsIn_wide.2 (cut35_any l0 hz1 _ HW.out))).mono ?_; rintro e w2 ⟨⟨l9, cx, cy, hl9, hz9, rfl⟩, q, hq⟩))
    have HI2 := Lib.hid (show LI s wB t (W.drewN q) from LI.own t W _ none HI.out ⟨rfl, rfl, rfl, Nat.le_refl _, fun _ _ _ => rfl⟩ (fun r e => by cases e))
    have HE3 := Lib.hid (show Env (W.drewN q) from HW.out.below ⟨rfl, rfl, rfl, Nat.le_refl _, fun _ _ => rfl⟩)
    have HK0 := Lib.hid (show KeepsOthers W (W.drewN q) from ⟨Nat.le_refl _, fun _ _ h _ => h⟩)
    have hcb2 : (W.drewN q).cell? ⟨wB.heap.size + 1, 0, none⟩ = some (.string (restOf t o)) := hcb
    have hfb2 : (W.drewN q).frozen? ⟨wB.heap.size + 1, 0, none⟩ = false := hfb
    clear hcb hfb hq
    obtain ⟨W2, eW2⟩ : ∃ V : World, W.drewN q = V := ⟨_, rfl⟩
    rw [eW2] at HI2 HE3 HK0 hcb2 hfb2 ⊢
    clear eW2
    obtain ⟨v, dn, H, hr, hOw, hk, hcv⟩ := HI2.out.st
    have hfv := HI2.out.fz
    have hpz := HI2.out.hp
    have HR := Lib.hid hr
    have HOW := Lib.hid hOw
    have HKX := Lib.hid hk
    have HL9 := Lib.hid (show l9.data.toList = (t.data.toList.take o).takeWhile (· != 35) by rw [hl9, hl0])
    clear hr hOw hk hl9 hl0
    have HSP := Lib.hid (split32_any l9 W2.drew (HE3.out.below ⟨rfl, rfl, rfl, Nat.le_refl _, fun _ _ => rfl⟩) (by omega))
    have hszd : W2.drew.heap.size = W2.heap.size := rfl
    have hcvd : W2.drew.cell? ⟨wB.heap.size, 0, none⟩ = some v := hcv
    have hmx : Tryz.prog.follows .mixedOrders = true := by kernel_rfl
    have HSQ := Lib.hid (show Calls Tryz.prog 69 #[.string l9, .string ⟨#[32]⟩] W2.drew (SpGive l9 W2 wB v) from HSP.out.mono fun e w' h => SpGive.of h hcv (by omega))
    clear HSP
    have hne : v.ownBlock ≠ some wB.heap.size := fun e => by have := (HOW.out.lt e).1; omega
    have hHn : H.length < 1073741824 := by
      have h1 := Wo.lns_len s.data.toList
      have h2 := HR.out.hl
      rw [HR.out.ln, List.length_append, size_len] at h1
      omega
    gi_region_with_o (first
      | (refine ⟨trivial, ?_⟩; gi_at_call 69; refine (CallsIn.inRound l (callsIn_wide.2 HSQ.out)).mono ?_; rintro e w4 ⟨ws, hws, hwl, rfl, HH4, hs4, hB4, hK4, hc4⟩)
      | (refine ⟨trivial, ?_⟩; gi_at_call 68; refine (CallsIn.inRound l (callsIn_wide.2 (DlGive.of (delete_any w4 W2.heap.size ws (by omega) HH4.out (frozen_lit HH4.out)) hc4 (by omega)))).mono ?_; rintro e w5 ⟨rfl, hR5, hB5, hK5, hc5, hs5⟩; obtain ⟨v6, w6, hrun, hO6, hA6, hK6⟩ := app_run ⟨some ⟨W2.heap.size, 0, none⟩, (ws.filter neB).length, ws.length⟩ (HOW.out.two hB4.out hB5.out) (by omega) hHn; obtain ⟨g6, c6, rfl⟩ := hO6.slc; have heq6 := hA6.far wB.heap.size (by omega) hne; have hc6 := (World.cell?_of_block (a := ⟨wB.heap.size, 0, none⟩) heq6).trans hc5; have hf6 := (World.frozen?_of_block (a := ⟨wB.heap.size, 0, none⟩) heq6).trans (((hB4.out.trans hB5.out).frozen (p := ⟨wB.heap.size, 0, none⟩) (by show wB.heap.size < W2.heap.size; omega)).trans hfv); have hc7 := (((Below.refl w5.heap.size w5).alloc (Nat.le_refl _) (.cells #[.slice (some ⟨W2.heap.size, 0, none⟩) (ws.filter neB).length ws.length] 44)).cell (p := ⟨wB.heap.size, 0, none⟩) (by show wB.heap.size < _; omega)).trans hc5; have HA6 := Lib.hid hA6; have HO6 := Lib.hid hO6; have HK6 := Lib.hid hK6; clear heq6 hA6 hO6 hK6))
    all_goals
      have hb25 : Below W2.heap.size W2 w5 := hB4.out.trans hB5.out
      have hnb : v.ownBlock ≠ some (wB.heap.size + 1) := fun e => by have := (HOW.out.lt e).1; omega
      have heq7 := HA6.out.far (wB.heap.size + 1) (by omega) hnb
      have hcb6 := (World.cell?_of_block (a := ⟨wB.heap.size + 1, 0, none⟩) heq7).trans ((hb25.cell (p := ⟨wB.heap.size + 1, 0, none⟩) (by show wB.heap.size + 1 < W2.heap.size; omega)).trans hcb2)
      have hfb6 := (World.frozen?_of_block (a := ⟨wB.heap.size + 1, 0, none⟩) heq7).trans ((hb25.frozen (p := ⟨wB.heap.size + 1, 0, none⟩) (by show wB.heap.size + 1 < W2.heap.size; omega)).trans hfb2)
      refine ⟨(((HK0.out.trans hK4.out).trans hK5.out).trans HK6.out).trans (KeepsOthers.setCell _ _ _), LI.next HR.out HKX.out HO.out HI.out.sz hpz hws HL9.out hR5.out hb25 (by omega) HA6.out HO6.out hf6 hc6, ?_, ?_⟩
      · exact (World.cell?_of_block (a := ⟨wB.heap.size + 1, 0, none⟩) (setCell_block _ _ _ _ _ (by show wB.heap.size + 1 ≠ wB.heap.size; omega))).trans hcb6
      · rw [World.frozen?_setCell]; exact hfb6
  case done =>
    rintro D t W hD ht hI hK
    obtain ⟨v, dn, H, hr, hO, hk, hc⟩ := hI.st
    have hok : Wo.sErr s.data.toList = 0 := sErr_ok (by rw [size_len]; have := HC4.out; omega) (by
      rintro (⟨h, -⟩ | h)
      · exact h HD0.out
      · rw [HPL.out] at h; cases h)
    have hg2 := grownBy_putObj' W D (.deferred none)
    have hr2 : ∀ r, some D = some r → ∃ o : Obj, W.heap[r]? = some o ∧ o.isCells = false := fun r e => by cases e; exact ⟨_, hK, rfl⟩
    have HF := Lib.hid (LI.fin (LI.own.putObj (.deferred none) hI (by rw [hz0] at hD; exact hD) hK rfl) (cell_kept hc hg2 hr2) ht hok hb)
    clear hok hr hO hk hI ht hg2 hr2
    gi_wp2
    refine ⟨by simp, .inl ⟨_, _, rfl, run_takeDeferred hK, ?_⟩⟩
    exact ⟨_, results_tmp2 (t := 2) (u := 3) rfl _ _ _, HF.out⟩
end Go.Proofs.YtcghhagnibabeaaGreatDoor
