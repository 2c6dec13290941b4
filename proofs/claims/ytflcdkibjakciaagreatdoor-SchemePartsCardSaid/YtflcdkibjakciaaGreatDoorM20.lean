/-
  MERGED (mergek.py): the texts S6, S5, Ln.
-/
import Derived.Test.YtflcdkibjakciaaGreatDoorM19
import Derived.Test.YtflcdkibjakciaaGreatDoorM18
import Derived.Test.YtflcdkibjakciaaGreatDoorM4
import Derived.Test.YtflcdkibjakciaaGreatDoorM10
import Derived.Test.YtflcdkibjakciaaGreatDoorM5
import Derived.Deep.RegionHeld3

namespace Go.Proofs.YtflcdkibjakciaaGreatDoor
open Go.RowKit Go.Shelf Go.Sort
attribute [local go_sem] Oper.semAt_some
attribute [-go_sem] Builtin.append_

set_option maxRecDepth 100000 in
set_option maxHeartbeats 8000000 in
theorem split_empty (s : ByteArray) (w : World) (hE : Env w) (hs : s.size ≤ 16384) (hc4 : ¬ 400 < s.data.toList.count 10) (hse : s.toList = []) : Calls Tryz.prog 42 #[.string s] w (SplitGive s w) := by
  have g1 : ¬ (16384 : Int) < (s.size : Int) := by omega
  have C1 := Lib.hid (fun (W : World) => Tryz.strings_Count_one s 10 W)
  obtain ⟨cn, ecn⟩ : ∃ n : Nat, Lib.countByte s.data.toList 10 = n := ⟨_, rfl⟩
  have ecn' : s.data.toList.count 10 = cn := ecn
  rw [ecn] at C1
  have g2 : ¬ (400 : Int) < (cn : Int) := by omega
  have h1 : s.toList.isEmpty = true := by rw [hse]; rfl
  have hd0 : s.data.toList = [] := by rw [← ByteArray.toList_eq]; exact hse
  have hpl : s.data.toList.all Wo.plainB = true := by rw [hd0]; rfl
  have C3 := Lib.hid (fun (W : World) => notplain_any s W)
  rw [hpl, Bool.not_true] at C3
  have HD0 := Lib.hid hd0
  have HPL := Lib.hid hpl
  have HC4 := Lib.hid hc4
  have HEN := Lib.hid hE
  clear hd0 hpl hc4 hE ecn ecn'
  refine (callsIn_wide (n := 5)).1 ?_
  refine callsIn_of_wp_marks Tryz.func42 rfl trivial ?_ rfl
  simp only [Tryz.ntmps42, List.size_toArray, List.length_cons, List.length_nil, Nat.reduceAdd, Nat.reduceSub, Array.replicate_succ, Array.replicate_zero, List.push_toArray, List.append_toArray, List.nil_append, List.cons_append]
  gi_wp2_with (first
    | (refine ⟨trivial, ?_⟩; gi_at_call 14; refine (callsIn_wide.2 (C1.out _)).mono ?_; rintro e w1 ⟨rfl, hw⟩; obtain rfl := hw.symm)
    | (fail))
  refine ⟨trivial, ?_⟩
  gi_wp2_with (first
    | (refine ⟨trivial, ?_⟩; gi_at_call 75; refine (callsIn_wide.2 (C3.out _)).mono ?_; rintro e wB ⟨rfl, hb⟩)
    | (refine ⟨trivial, ?_⟩; gi_at_call 78; refine (callsIn_wide.2 (lines_any s _)).mono ?_; rintro e w3 ⟨rfl, hw3⟩))
  have hz0 : ((wB.alloc (.cells #[.slice none 0 0] 67)).alloc (.cells #[.string s] 9)).heap.size = wB.heap.size + 2 := by rw [World.size_alloc, World.size_alloc]
  have hE2 := Lib.hid (HEN.out.below hb)
  refine wpIn_lines (n := 5) (by omega) (wB.heap.size + 1) s rfl rfl (by rw [hz0]; omega) ?hc ?hf (LI s wB) (by rw [hz0]; exact LI.own) (fun _ _ h => h.drew) (fun _ _ v h => h.set v) (fun t W h => ⟨h.sz, ?hnl⟩) ?h0
    (fun x => { tmps := #[.string s, undef, .slice none 0 0, .int .i64 0, .pointer (some ⟨wB.heap.size, 0, none⟩), .string x, .string s, .int .i64 (s.size : Int), .bool false, .bool false, .string s, .int .i64 (cn : Int), .bool (decide ((400 : Int) < (cn : Int))), .bool (decide ((400 : Int) < (cn : Int))), .string s, .bool false, .bool false, undef, undef, undef, .bool false, .bool false, .string s, .bool false, .bool false, .string s, .func (.func 111) #[] #[.pointer (some ⟨wB.heap.size + 1, 0, none⟩)], .string x, undef, undef, undef, undef, undef, undef, undef, undef, undef, undef, undef, undef, undef, undef], defers := [] }) ?assign ?body ?done
  case hc => rw [← World.size_alloc wB (.cells #[.slice none 0 0] 67)]; exact (box_new _ _ _).1
  case hf => rw [← World.size_alloc wB (.cells #[.slice none 0 0] 67)]; exact (box_new _ _ _).2
  case hnl =>
    obtain ⟨v, dn, H, hr, -⟩ := h.st
    exact hr.nl
  case h0 =>
    have hcn := box_new wB (.slice none 0 0) 67
    have hb0 : Below wB.heap.size wB ((wB.alloc (.cells #[.slice none 0 0] 67)).alloc (.cells #[.string s] 9)) := ((Below.refl _ wB).alloc (Nat.le_refl _) _).alloc (by simp) _
    exact ⟨⟨_, [], [], ⟨rfl, .inl HD0.out, OwnR.nil _ _ _, rfl, fun k hk => by simp at hk, fun k hk => by simp at hk, hb0⟩, OwnR.nil _ _ _, fun k hk => by simp at hk, (Below.cell (((Below.refl _ _).alloc (Nat.le_refl _) _) : Below (wB.alloc (.cells #[.slice none 0 0] 67)).heap.size _ _) (p := ⟨wB.heap.size, 0, none⟩) (by simp)).trans hcn.1⟩, (Below.frozen (((Below.refl _ _).alloc (Nat.le_refl _) _) : Below (wB.alloc (.cells #[.slice none 0 0] 67)).heap.size _ _) (p := ⟨wB.heap.size, 0, none⟩) (by simp)).trans hcn.2, hs, by rw [hz0]; omega⟩
  case assign =>
    intro l x W K hK
    gi_wp2
    exact hK
  case body =>
    rintro l t o W hI ho hol hcb hfb
    have HI := Lib.hid hI
    have hEW : Env W := by
      obtain ⟨v, dn, H, hr, -⟩ := hI.st
      exact hE2.out.below hr.below
    have T1 := Lib.hid (trim_any t o ho hol hI.sz W)
    have HW := Lib.hid hEW
    have HO := Lib.hid ho
    clear hI hEW ho
    gi_wp2_with (first
      | (refine ⟨trivial, ?_⟩; gi_at_call 80; refine (CallsIn.inRound l (callsIn_wide.2 T1.out)).mono ?_; rintro e w1 ⟨⟨l0, hl0, hz1, rfl⟩, hw⟩; obtain rfl := hw.symm; clear T1)
      | (refine ⟨trivial, ?_⟩; gi_at_call 79; refine (CallsIn.inRound l (callsIn_wide.2 (cut35_any l0 hz1 _ HW.out))).mono ?_; rintro e w2 ⟨⟨l9, cx, cy, hl9, hz9, rfl⟩, q, hq⟩))
    have HI2 := Lib.hid (show LI s wB t (W.drewN q) from LI.own t W _ none HI.out ⟨rfl, rfl, rfl, Nat.le_refl _, fun _ _ _ => rfl⟩ (fun r e => by cases e))
    have HE3 := Lib.hid (show Env (W.drewN q) from HW.out.below ⟨rfl, rfl, rfl, Nat.le_refl _, fun _ _ => rfl⟩)
    have HK0 := Lib.hid (show KeepsOthers W (W.drewN q) from ⟨Nat.le_refl _, fun _ _ h _ => h⟩)
    have hcb2 : (W.drewN q).cell? ⟨wB.heap.size + 1, 0, none⟩ = some (.string (restOf t o)) := hcb
    have hfb2 : (W.drewN q).frozen? ⟨wB.heap.size + 1, 0, none⟩ = false := hfb
    clear hcb hfb hq
    obtain ⟨W2, eW2⟩ : ∃ V : World, W.drewN q = V := ⟨_, rfl⟩
    rw [eW2] at HI2 HE3 HK0 hcb2 hfb2 ⊢
    clear eW2
    obtain ⟨v, dn, H, hr, hOw, hk, hcv⟩ := HI2.out.st
    have hfv := HI2.out.fz
    have hpz := HI2.out.hp
    have HR := Lib.hid hr
    have HOW := Lib.hid hOw
    have HKX := Lib.hid hk
    have HL9 := Lib.hid (show l9.data.toList = (t.data.toList.take o).takeWhile (· != 35) by rw [hl9, hl0])
    clear hr hOw hk hl9 hl0
    have HSP := Lib.hid (split32_any l9 W2.drew (HE3.out.below ⟨rfl, rfl, rfl, Nat.le_refl _, fun _ _ => rfl⟩) (by omega))
    have hszd : W2.drew.heap.size = W2.heap.size := rfl
    have hcvd : W2.drew.cell? ⟨wB.heap.size, 0, none⟩ = some v := hcv
    have hmx : Tryz.prog.follows .mixedOrders = true := by kernel_rfl
    have HSQ := Lib.hid (show Calls Tryz.prog 82 #[.string l9, .string ⟨#[32]⟩] W2.drew (SpGive l9 W2 wB v) from HSP.out.mono fun e w' h => SpGive.of h hcv (by omega))
    clear HSP
    have hne : v.ownBlock ≠ some wB.heap.size := fun e => by have := (HOW.out.lt e).1; omega
    have hHn : H.length < 1073741824 := by
      have h1 := Wo.lns_len s.data.toList
      have h2 := HR.out.hl
      rw [HR.out.ln, List.length_append, size_len] at h1
      omega
    gi_region_with_o (first
      | (refine ⟨trivial, ?_⟩; gi_at_call 82; refine (CallsIn.inRound l (callsIn_wide.2 HSQ.out)).mono ?_; rintro e w4 ⟨ws, hws, hwl, rfl, HH4, hs4, hB4, hK4, hc4⟩)
      | (refine ⟨trivial, ?_⟩; gi_at_call 81; refine (CallsIn.inRound l (callsIn_wide.2 (DlGive.of (delete_any w4 W2.heap.size ws (by omega) HH4.out (frozen_lit HH4.out)) hc4 (by omega)))).mono ?_; rintro e w5 ⟨rfl, hR5, hB5, hK5, hc5, hs5⟩; obtain ⟨v6, w6, hrun, hO6, hA6, hK6⟩ := app_run ⟨some ⟨W2.heap.size, 0, none⟩, (ws.filter neB).length, ws.length⟩ (HOW.out.two hB4.out hB5.out) (by omega) hHn; obtain ⟨g6, c6, rfl⟩ := hO6.slc; have heq6 := hA6.far wB.heap.size (by omega) hne; have hc6 := (World.cell?_of_block (a := ⟨wB.heap.size, 0, none⟩) heq6).trans hc5; have hf6 := (World.frozen?_of_block (a := ⟨wB.heap.size, 0, none⟩) heq6).trans (((hB4.out.trans hB5.out).frozen (p := ⟨wB.heap.size, 0, none⟩) (by show wB.heap.size < W2.heap.size; omega)).trans hfv); have hc7 := (((Below.refl w5.heap.size w5).alloc (Nat.le_refl _) (.cells #[.slice (some ⟨W2.heap.size, 0, none⟩) (ws.filter neB).length ws.length] 56)).cell (p := ⟨wB.heap.size, 0, none⟩) (by show wB.heap.size < _; omega)).trans hc5; have HA6 := Lib.hid hA6; have HO6 := Lib.hid hO6; have HK6 := Lib.hid hK6; clear heq6 hA6 hO6 hK6))
    all_goals
      have hb25 : Below W2.heap.size W2 w5 := hB4.out.trans hB5.out
      have hnb : v.ownBlock ≠ some (wB.heap.size + 1) := fun e => by have := (HOW.out.lt e).1; omega
      have heq7 := HA6.out.far (wB.heap.size + 1) (by omega) hnb
      have hcb6 := (World.cell?_of_block (a := ⟨wB.heap.size + 1, 0, none⟩) heq7).trans ((hb25.cell (p := ⟨wB.heap.size + 1, 0, none⟩) (by show wB.heap.size + 1 < W2.heap.size; omega)).trans hcb2)
      have hfb6 := (World.frozen?_of_block (a := ⟨wB.heap.size + 1, 0, none⟩) heq7).trans ((hb25.frozen (p := ⟨wB.heap.size + 1, 0, none⟩) (by show wB.heap.size + 1 < W2.heap.size; omega)).trans hfb2)
      refine ⟨(((HK0.out.trans hK4.out).trans hK5.out).trans HK6.out).trans (KeepsOthers.setCell _ _ _), LI.next HR.out HKX.out HO.out HI.out.sz hpz hws HL9.out hR5.out hb25 (by omega) HA6.out HO6.out hf6 hc6, ?_, ?_⟩
      · exact (World.cell?_of_block (a := ⟨wB.heap.size + 1, 0, none⟩) (setCell_block _ _ _ _ _ (by show wB.heap.size + 1 ≠ wB.heap.size; omega))).trans hcb6
      · rw [World.frozen?_setCell]; exact hfb6
  case done =>
    rintro D t W hD ht hI hK
    obtain ⟨v, dn, H, hr, hO, hk, hc⟩ := hI.st
    have hok : Wo.sErr s.data.toList = 0 := sErr_ok (by rw [size_len]; have := HC4.out; omega) (by
      rintro (⟨h, -⟩ | h)
      · exact h HD0.out
      · rw [HPL.out] at h; cases h)
    have hg2 := grownBy_putObj' W D (.deferred none)
    have hr2 : ∀ r, some D = some r → ∃ o : Obj, W.heap[r]? = some o ∧ o.isCells = false := fun r e => by cases e; exact ⟨_, hK, rfl⟩
    have HF := Lib.hid (LI.fin (LI.own.putObj (.deferred none) hI (by rw [hz0] at hD; exact hD) hK rfl) (cell_kept hc hg2 hr2) ht hok hb)
    clear hok hr hO hk hI ht hg2 hr2
    gi_wp2
    refine ⟨by simp, .inl ⟨_, _, rfl, run_takeDeferred hK, ?_⟩⟩
    exact ⟨_, results_tmp2 (t := 2) (u := 3) rfl _ _ _, HF.out⟩
end Go.Proofs.YtflcdkibjakciaaGreatDoor

namespace Go.Proofs.YtflcdkibjakciaaGreatDoor
open Go.RowKit Go.Shelf Go.Sort

set_option maxRecDepth 100000 in
set_option maxHeartbeats 8000000 in
theorem split_any (s : ByteArray) (w : World) (hE : Env w) (hs : s.size ≤ 9223372036854775807) : Calls Tryz.prog 42 #[.string s] w (SplitGive s w) := by
  have hlen := size_len s
  by_cases h1 : 16384 < s.size
  · have HF := Lib.hid (split_bad (sErr_long (l := s.data.toList) (.inl (by omega))) (by decide) w w (Below.refl _ _))
    have h1' : (16384 : Int) < (s.size : Int) := by omega
    clear h1 hlen hE
    go_enter Tryz.func42, Tryz.ntmps42
    go_wp2
    go_ret2
    exact HF.out
  have g1 : ¬ (16384 : Int) < (s.size : Int) := by omega
  have C1 := Lib.hid (fun (W : World) => Tryz.strings_Count_one s 10 W)
  obtain ⟨cn, ecn⟩ : ∃ n : Nat, Lib.countByte s.data.toList 10 = n := ⟨_, rfl⟩
  rw [ecn] at C1
  have ecn' : s.data.toList.count 10 = cn := ecn
  by_cases h2 : 400 < cn
  · have HF := Lib.hid (split_bad (sErr_long (l := s.data.toList) (.inr (by rw [ecn']; omega))) (by decide) w w (Below.refl _ _))
    have h2' : (400 : Int) < (cn : Int) := by omega
    clear h1 h2 hlen hE ecn ecn'
    go_enter Tryz.func42, Tryz.ntmps42
    go_wp2_with (first | (go_at_call 14; refine Calls.mono (C1.out _) ?_; rintro e w1 ⟨rfl, hw⟩; obtain rfl := hw.symm))
    go_ret2
    exact HF.out
  have g2 : ¬ (400 : Int) < (cn : Int) := by omega
  have hL := Lib.hid (show ¬ (16384 < s.data.toList.length ∨ 400 < s.data.toList.count 10) by rw [ecn']; omega)
  by_cases hse : s.toList = []
  · exact split_empty s w hE (by omega) (by rw [ecn']; exact h2) hse
  have h3 : s.toList.isEmpty = false := by cases h : s.toList with | nil => exact absurd h hse | cons a b => rfl
  have hd0 : s.data.toList ≠ [] := by rw [← ByteArray.toList_eq]; exact hse
  have C2 := Lib.hid (fun (W : World) => Tryz.strings_HasSuffix s ⟨#[10]⟩ W (by omega))
  have e2 : Lib.hasSuffix s.data.toList (⟨#[10]⟩ : ByteArray).data.toList = decide (s.data.toList.getLast? = some 10) := by
    show Lib.hasSuffix s.data.toList [10] = _
    unfold Lib.hasSuffix
    rw [Bool.eq_iff_iff, List.isSuffixOf_iff_suffix, decide_eq_true_eq, List.getLast?_eq_some_iff]
    constructor
    · rintro ⟨i, hi⟩; exact ⟨i, hi.symm⟩
    · rintro ⟨i, hi⟩; exact ⟨i, hi.symm⟩
  rw [e2] at C2
  by_cases hla : s.data.toList.getLast? = some 10
  · rw [decide_eq_true hla] at C2
    have C3 := Lib.hid (fun (W : World) => notplain_any s W)
    by_cases hpl : s.data.toList.all Wo.plainB = true
    · exact split_good s w hE (by omega) (by rw [ecn']; exact h2) hse hla hpl
    · have hpf : s.data.toList.all Wo.plainB = false := by simpa using hpl
      rw [hpf, Bool.not_false] at C3
      have HF := Lib.hid (fun (w' : World) (hb : Below w.heap.size w w') => split_bad (sErr_form hL.out (.inr hpf)) (by decide) w w' hb)
      clear hpl hpf hla e2 hd0 hlen h1 h2 ecn ecn' hE
      go_enter Tryz.func42, Tryz.ntmps42
      go_wp2_with (first | (go_at_call 14; refine Calls.mono (C1.out _) ?_; rintro e w1 ⟨rfl, hw⟩; obtain rfl := hw.symm) | (go_at_call 74; refine Calls.mono (C2.out _) ?_; rintro e w1 ⟨rfl, hw⟩; obtain rfl := hw.symm) | (go_at_call 75; refine Calls.mono (C3.out _) ?_; rintro e wB ⟨rfl, hb⟩))
      go_ret2
      exact HF.out _ hb
  · rw [decide_eq_false hla] at C2
    have HF := Lib.hid (fun (w' : World) (hb : Below w.heap.size w w') => split_bad (sErr_form hL.out (.inl ⟨hd0, hla⟩)) (by decide) w w' hb)
    clear hla e2 hd0 hlen h1 h2 ecn ecn' hE
    go_enter Tryz.func42, Tryz.ntmps42
    go_wp2_with (first | (go_at_call 14; refine Calls.mono (C1.out _) ?_; rintro e w1 ⟨rfl, hw⟩; obtain rfl := hw.symm) | (go_at_call 74; refine Calls.mono (C2.out _) ?_; rintro e w1 ⟨rfl, hw⟩; obtain rfl := hw.symm))
    go_ret2
    exact HF.out _ (Below.refl _ _)
end Go.Proofs.YtflcdkibjakciaaGreatDoor

namespace Go.Proofs.YtflcdkibjakciaaGreatDoor
open Go.RowKit

/-- Join with whatever stands between. -/
def JnS (ws : List ByteArray) (sep : List UInt8) (w : World) (e : Ending) (w' : World) : Prop := ∃ J : ByteArray, J.data.toList = Lib.join (ws.map (·.data.toList)) sep ∧ e = .returned (.string J) ∧ Below w.heap.size w w'

theorem joinsep_any (q : Option Addr) (ws : List ByteArray) (n c : Nat) (sep : ByteArray) (w : World) (hn : ws.length = n) (h : Recs SB w q ws) (hc : n ≤ c) (hl : (Lib.join (ws.map (·.data.toList)) sep.data.toList).length ≤ 140737488355328) (h4 : n ≤ 140737488355328) :
    Calls Tryz.prog 69 #[.slice q n c, .string sep] w (JnS ws sep.data.toList w) := by
  subst hn
  rcases h.2 with e | ⟨b, off, rfl, hb, hcell⟩
  · subst e
    exact (Tryz.strings_Join_none q c sep w).mono fun e w' ⟨he, hw⟩ => ⟨_, rfl, he, hw ▸ Below.refl _ _⟩
  · exact (Tryz.strings_Join b off c ws sep w (fun j x hx => hcell j _ (by rw [flat_str, List.getElem?_map, hx]; rfl)) hb h4 hc hl).mono fun e w' ⟨he, hw⟩ => ⟨_, rfl, he, hw⟩

/-- Lines that read as they were written. -/
def SpB (LL : List (List ByteArray)) (w : World) (e : Ending) (w' : World) : Prop := ∃ p c, e = .returned (.tuple #[.slice p LL.length c, .int .i64 0]) ∧ Hid (LinesAt w' p LL) ∧ Below w.heap.size w w'
def JnB (LL : List (List ByteArray)) (w : World) (e : Ending) (w' : World) : Prop := ∃ S : ByteArray, S.data.toList = Wo.jText (lb LL) ∧ e = .returned (.tuple #[.string S, .int .i64 0]) ∧ Below w.heap.size w w'

theorem unlb (LL : List (List ByteArray)) : (lb LL).map (fun ws => ws.map bs) = LL := by
  unfold lb
  rw [List.map_map]
  have : ∀ ws ∈ LL, ((fun ws => ws.map bs) ∘ fun ws : List ByteArray => ws.map (·.data.toList)) ws = ws := by
    intro ws _
    show (ws.map (·.data.toList)).map bs = ws
    rw [List.map_map]
    have h2 : ∀ x ∈ ws, (bs ∘ fun x : ByteArray => x.data.toList) x = x := fun x _ => rfl
    rw [List.map_congr_left h2, List.map_id']
  rw [List.map_congr_left this, List.map_id']

theorem splitB (s : ByteArray) (LL : List (List ByteArray)) (w : World) (hE : Env w) (hs : s.size ≤ 9223372036854775807) (h0 : Wo.sErr s.data.toList = 0) (hl : Wo.sList s.data.toList = lb LL) : Calls Tryz.prog 42 #[.string s] w (SpB LL w) :=
  (split_any s w hE hs).mono fun e w' ⟨p, c, h1, h2, _, h4⟩ => by
    have e : sLines s = LL := by unfold sLines; rw [hl, unlb]
    rw [e] at h1 h2
    exact ⟨p, c, by rw [h1, h0], Lib.hid h2, h4⟩

theorem joinB (LL : List (List ByteArray)) (p : Option Addr) (n c : Nat) (w : World) (hn : LL.length = n) (h : LinesAt w p LL) (hT : (Wo.jText (lb LL)).length ≤ 1099511627776) (hz : ∀ ws ∈ LL, ws.length ≤ 1099511627776) (h0 : Wo.jErr (lb LL) = 0) (ho : Wo.jOut (lb LL) = Wo.jText (lb LL)) :
    Calls Tryz.prog 38 #[.slice p n c] w (JnB LL w) :=
  (hn ▸ join_any LL p c w h hT hz).mono fun _ _ ⟨h1, h2⟩ => ⟨⟨(Wo.jOut (lb LL)).toArray⟩, by rw [ho], by rw [h1, h0], h2⟩

/-- append of a slice of records to a row of the call's own, at a step of a region: with what stays. -/
theorem OwnR.stepAp {α : Type} {S : Shape α} {P : Program} {T TS : TypeId} {bytes : Nat} (he : Elem S P T TS bytes) {w : World} {ops : Array Oper} {o : Oper} {a : Act} {K : Act → World → Prop} {Q : Exit → Act → World → Prop} {E : Prop} (hgd : o.guard = none) (s x : Operand)
    (ho : o.op = .call { callee := .builtin .append, args := #[s, x], argTypes := #[TS, TS] }) (B : Nat) (v : Value) (L M : List α) (p : Option Addr) (c n : Nat) (hM : M.length = n) (hown : OwnR S w T B v L) (hsrc : Recs S w p M) (hp : p = none → c = 0) (hs : a.eval s = v)
    (hx : a.eval x = .slice p n c) (hB : B ≤ w.heap.size) (hn : L.length + n < 1073741824) (hby : bytes ≤ 65536)
    (h : ∀ v' w', OwnR S w' T B v' (L ++ M) → Appends w w' B w.heap.size v v' → K (a.put o.dst v') w') : if Region.wanted o (yielded ops a.tmps) = true then Oper.wp P o a w K Q else E := by
  subst hM
  have hw : Region.wanted o (yielded ops a.tmps) = true := by simp [Region.wanted, hgd]
  rw [if_pos hw]
  obtain ⟨i0, z, e1, e2, e3, e4, e5⟩ := he.ex
  have hb2 : (L.length + M.length) * bytes ≤ 1073741824 * 65536 := Nat.mul_le_mul (by omega) hby
  cases p with
  | none =>
    obtain rfl := hp rfl
    have hM : M = [] := by
      rcases hsrc.2 with h | ⟨b, off, h, _⟩
      · exact h
      · cases h
    subst hM
    have hrun := run_append_owned_none (P := P) (w := w) B TS o.type T i0 S.k he.ts e1 v L.length (S.flat L) hown
    unfold Oper.wp
    simp [execOp, ho, resolve, invoke, builtin, hs, hx, hrun, Result.andThen]
    exact h _ _ (by rw [List.append_nil]; exact hown) ⟨Below.refl _ _, Nat.le_refl _, fun _ _ _ => rfl, .inl rfl⟩
  | some ad =>
    obtain ⟨v', w', hr, h2, h3, -, h4⟩ := run_append_own_at (P := P) w B TS o.type T i0 z S.k bytes he.ts e1 e2 e3 e4 e5 S.pos v L.length (S.flat L) hown ad M.length c (S.flat M) (S.flat_len M) (fun j u hu => by
      rcases hsrc.2 with rfl | ⟨b', off', hp', hl, hc⟩
      · simp [Shape.flat] at hu
      · cases hp'
        rw [Go.WideShapes.add_plain]
        exact hc j u hu) (S.flat_ones M) (by unfold maxLen; omega) (by omega) hB
    unfold Oper.wp execOp
    simp only [ho, resolve, invoke, builtin, Sem.run_bind, Sem.run_pure, Result.andThen_ok, List.map_toArray, List.map_cons, List.map_nil, hs, hx, hr]
    refine h v' w' ?_ ⟨(Below.refl B w).grown h3 hB fun k hk => (World.ownsRow.lt hown k hk).1, h3.size, fun k hk hne => h3.block k hk (fun e => hne e.symm), h4⟩
    unfold OwnR
    rw [List.length_append, S.flat_append]
    exact h2

/-- Lines of words that are being built: their headers lie at the slice v of the call's own. -/
structure LB (w wr : World) (v : Value) (LL : List (List ByteArray)) (H : List Hd) : Prop where
  own : OwnR SH wr 56 w.heap.size v H
  hl : H.length = LL.length
  rows : ∀ k (hk : k < H.length) (hk' : k < LL.length), WordsAt wr H[k] LL[k]
  apart : ∀ k (hk : k < H.length) a, H[k].p = some a → v.ownBlock ≠ some a.block ∧ w.heap.size ≤ a.block ∧ a.block < wr.heap.size
  below : Below w.heap.size w wr

theorem LB.nil {w wr : World} (h : Below w.heap.size w wr) : LB w wr (.slice none 0 0) [] [] :=
  ⟨OwnR.nil _ _ _, rfl, fun k hk => by simp at hk, fun k hk => by simp at hk, h⟩

theorem LB.stp {w wr w' : World} {v : Value} {LL : List (List ByteArray)} {H : List Hd} (h : LB w wr v LL H) (hb : Below wr.heap.size wr w') : LB w w' v LL H :=
  ⟨h.own.below hb, h.hl, fun k hk hk' => (h.rows k hk hk').below hb, fun k hk a e => ⟨(h.apart k hk a e).1, (h.apart k hk a e).2.1, Nat.lt_of_lt_of_le (h.apart k hk a e).2.2 hb.size⟩, h.below.trans (hb.mono h.below.size)⟩

theorem LB.lines {w wr : World} {v : Value} {LL : List (List ByteArray)} {H : List Hd} (h : LB w wr v LL H) {n : Nat} (hn : LL.length = n) : ∃ p c, v = .slice p n c ∧ LinesAt wr p LL := by
  obtain ⟨p, c, e, -, -, -, -, hr⟩ := h.own.cut (h.hl.trans hn)
  exact ⟨p, c, e, H, h.hl, hr, h.rows⟩

/-- One line more. -/
theorem LB.add {w wr w5 w6 : World} {v v6 : Value} {LL : List (List ByteArray)} {H : List Hd} (h : LB w wr v LL H) (hb : Below wr.heap.size wr w5) (ws : List ByteArray) (y : Hd) (hy : WordsAt w5 y ws) (hya : ∀ a, y.p = some a → wr.heap.size ≤ a.block ∧ a.block < w5.heap.size) {G : Nat}
    (hG : w5.heap.size ≤ G) (hO : OwnR SH w6 56 w.heap.size v6 (H ++ [y])) (hap : Appends w5 w6 w.heap.size G v v6) : LB w w6 v6 (LL ++ [ws]) (H ++ [y]) := by
  have h5 := h.stp hb
  have hyv : ∀ a, y.p = some a → v.ownBlock ≠ some a.block := fun a e e2 => by have := (hya a e).1; have := (h.own.lt e2).2; omega
  have hsz := hap.size
  refine ⟨hO, by rw [List.length_append, List.length_append, h.hl]; rfl, fun k hk hk' => ?_, fun k hk a e => ?_, h5.below.trans hap.below⟩
  · by_cases hlt : k < H.length
    · rw [List.getElem_append_left hlt, List.getElem_append_left (by rw [← h.hl]; exact hlt)]
      have := h5.rows k hlt (by rw [← h.hl]; exact hlt)
      exact ⟨this.1, this.2.1.far hap (fun a e => (h5.apart k hlt a e).1), this.2.2⟩
    · have e : k = H.length := by rw [List.length_append] at hk; simp at hk; omega
      subst e
      rw [List.getElem_append_right (Nat.le_refl _), List.getElem_append_right (by rw [h.hl]; exact Nat.le_refl _)]
      simp only [Nat.sub_self, h.hl, List.getElem_cons_zero]
      exact ⟨hy.1, hy.2.1.far hap hyv, hy.2.2⟩
  · have key : ∀ b : Nat, v.ownBlock ≠ some b → b < w5.heap.size → v6.ownBlock ≠ some b := fun b h1 h2 e2 => by
      rcases hap.block with e3 | e3
      · rw [e3] at e2; exact h1 e2
      · rw [e3] at e2; injection e2 with e2; omega
    by_cases hlt : k < H.length
    · rw [List.getElem_append_left hlt] at e
      obtain ⟨a1, a2, a3⟩ := h5.apart k hlt a e
      exact ⟨key _ a1 a3, a2, by omega⟩
    · have e2 : k = H.length := by rw [List.length_append] at hk; simp at hk; omega
      subst e2
      rw [List.getElem_append_right (Nat.le_refl _)] at e
      simp only [Nat.sub_self, List.getElem_cons_zero] at e
      obtain ⟨a1, a2⟩ := hya a e
      exact ⟨key _ (hyv a e) a2, by have := h.below.size; omega, by omega⟩

theorem bl1 {wo W : World} {o : Obj} {B : Nat} (h : Below B (wo.alloc o) W) : wo.heap.size + 1 ≤ W.heap.size := by
  have := h.size
  rw [World.size_alloc] at this
  exact this

theorem Appends.cells {w w' : World} {B G : Nat} {v v' : Value} (h : Appends w w' B G v v') {b : Nat} (hb : b < w.heap.size) (hn : v.ownBlock ≠ some b) (i : Nat) : w'.cell? ⟨b, i, none⟩ = w.cell? ⟨b, i, none⟩ := by
  have := h.far b hb hn
  simp only [World.cell?, this]

theorem OwnR.away {α : Type} {S : Shape α} {w : World} {T : TypeId} {B : Nat} {v : Value} {L : List α} (h : OwnR S w T B v L) {b : Nat} (hb : w.heap.size ≤ b) : v.ownBlock ≠ some b := fun e => by have := (h.lt e).2; omega

theorem take_map_succ {α β : Type} (f : α → β) (L : List α) (k : Nat) (h : k < L.length) : (L.take (k + 1)).map f = (L.take k).map f ++ [f L[k]] := by
  rw [List.take_succ_eq_append_getElem h, List.map_append]; rfl

/-- A literal row of words. -/
theorem row_at (W : World) (ws : List ByteArray) {n : Nat} (hn : ws.length = n) (hl : n ≤ 1000) : WordsAt (W.alloc (.cells (SB.flat ws).toArray 9)) ⟨some ⟨W.heap.size, 0, none⟩, n, n⟩ ws :=
  ⟨hn.symm, Recs.lit W 9 ws (by unfold maxLen; omega), fun h => (by cases h), Nat.le_refl _⟩

/-- .. and its header behind it. -/
theorem row_hd {w6 : World} {c : Obj} {ws : List ByteArray} {n : Nat} (h : WordsAt (w6.alloc c) ⟨some ⟨w6.heap.size, 0, none⟩, n, n⟩ ws) :
    Recs SH ((w6.alloc c).alloc (.cells #[.slice (some ⟨w6.heap.size, 0, none⟩) n n] 56)) (some ⟨w6.heap.size + 1, 0, none⟩) [(⟨some ⟨w6.heap.size, 0, none⟩, n, n⟩ : Hd)] ∧ WordsAt ((w6.alloc c).alloc (.cells #[.slice (some ⟨w6.heap.size, 0, none⟩) n n] 56)) ⟨some ⟨w6.heap.size, 0, none⟩, n, n⟩ ws := by
  refine ⟨?_, h.below ((Below.refl _ _).alloc (Nat.le_refl _) _)⟩
  have := Recs.lit (S := SH) (w6.alloc c) 56 [(⟨some ⟨w6.heap.size, 0, none⟩, n, n⟩ : Hd)] (by show 1 ≤ _; unfold maxLen; omega)
  rw [World.size_alloc] at this
  exact this

/-- A literal row as a row of the call's own. -/
theorem row_own {α : Type} {S : Shape α} (W : World) (T : TypeId) (L : List α) {n B : Nat} (hn : L.length = n) (hl : n ≤ 1000) (hB : B ≤ W.heap.size) : OwnR S (W.alloc (.cells (S.flat L).toArray T)) T B (.slice (some ⟨W.heap.size, 0, none⟩) n n) L := by
  subst hn
  exact OwnR.of_block (cur := (S.flat L).toArray) (by unfold BlockAt; exact heap_alloc_new W _) hB (Nat.le_refl _) (by unfold maxLen; omega) (by rw [List.size_toArray, S.flat_len]) (by simp [S.flat_len, List.take_of_length_le])

/-- Seen from an elder world. -/
theorem LB.elder {w w1 wr : World} {v : Value} {LL : List (List ByteArray)} {H : List Hd} (h : LB w1 wr v LL H) (hb : Below w.heap.size w w1) : LB w wr v LL H :=
  ⟨h.own.mono hb.size, h.hl, h.rows, fun k hk a e => ⟨(h.apart k hk a e).1, Nat.le_trans hb.size (h.apart k hk a e).2.1, (h.apart k hk a e).2.2⟩, bstep (Nat.le_refl _) hb h.below⟩

/-- Lines more. -/
theorem LB.adds {w wr w5 w6 : World} {v v6 : Value} {LL MM : List (List ByteArray)} {H M : List Hd} (h : LB w wr v LL H) (hb : Below wr.heap.size wr w5) (hM : M.length = MM.length) (hy : ∀ k (hk : k < M.length) (hk' : k < MM.length), WordsAt w5 M[k] MM[k])
    (hya : ∀ k (hk : k < M.length) a, M[k].p = some a → wr.heap.size ≤ a.block ∧ a.block < w5.heap.size) {G : Nat} (hG : w5.heap.size ≤ G) (hO : OwnR SH w6 56 w.heap.size v6 (H ++ M)) (hap : Appends w5 w6 w.heap.size G v v6) : LB w w6 v6 (LL ++ MM) (H ++ M) := by
  have h5 := h.stp hb
  have hyv : ∀ k (hk : k < M.length) a, M[k].p = some a → v.ownBlock ≠ some a.block := fun k hk a e e2 => by have := (hya k hk a e).1; have := (h.own.lt e2).2; omega
  have hsz := hap.size
  have key : ∀ b : Nat, v.ownBlock ≠ some b → b < w5.heap.size → v6.ownBlock ≠ some b := fun b h1 h2 e2 => by
    rcases hap.block with e3 | e3
    · rw [e3] at e2; exact h1 e2
    · rw [e3] at e2; injection e2 with e2; omega
  refine ⟨hO, by rw [List.length_append, List.length_append, h.hl, hM], fun k hk hk' => ?_, fun k hk a e => ?_, h5.below.trans hap.below⟩
  · by_cases hlt : k < H.length
    · rw [List.getElem_append_left hlt, List.getElem_append_left (by rw [← h.hl]; exact hlt)]
      have := h5.rows k hlt (by rw [← h.hl]; exact hlt)
      exact ⟨this.1, this.2.1.far hap (fun a e => (h5.apart k hlt a e).1), this.2.2⟩
    · have hk2 : k - H.length < M.length := by rw [List.length_append] at hk; omega
      have e1 : (H ++ M)[k] = M[k - H.length] := List.getElem_append_right (by omega)
      have e2 : (LL ++ MM)[k] = MM[k - H.length]'(by rw [← hM]; exact hk2) := by
        rw [List.getElem_append_right (by rw [← h.hl]; omega)]
        congr 1
        rw [h.hl]
      rw [e1, e2]
      have := hy (k - H.length) hk2 (by rw [← hM]; exact hk2)
      exact ⟨this.1, this.2.1.far hap (hyv _ hk2), this.2.2⟩
  · by_cases hlt : k < H.length
    · rw [List.getElem_append_left hlt] at e
      obtain ⟨a1, a2, a3⟩ := h5.apart k hlt a e
      exact ⟨key _ a1 a3, a2, by omega⟩
    · have hk2 : k - H.length < M.length := by rw [List.length_append] at hk; omega
      have e1 : (H ++ M)[k] = M[k - H.length] := List.getElem_append_right (by omega)
      rw [e1] at e
      obtain ⟨a1, a2⟩ := hya _ hk2 a e
      exact ⟨key _ (hyv _ hk2 a e) a2, by have := h.below.size; omega, by omega⟩

/-- Two lines, literally. -/
theorem LB.two {w w5 : World} {y1 y2 : Hd} {ws1 ws2 : List ByteArray} (hb : Below w.heap.size w w5) (h1 : WordsAt w5 y1 ws1) (h2 : WordsAt w5 y2 ws2) (a1 : ∀ a, y1.p = some a → w.heap.size ≤ a.block ∧ a.block < w5.heap.size) (a2 : ∀ a, y2.p = some a → w.heap.size ≤ a.block ∧ a.block < w5.heap.size) :
    LB w (w5.alloc (.cells #[.slice y1.p y1.n y1.c, .slice y2.p y2.n y2.c] 56)) (.slice (some ⟨w5.heap.size, 0, none⟩) 2 2) [ws1, ws2] [y1, y2] := by
  have hB : Below w5.heap.size w5 (w5.alloc (.cells #[.slice y1.p y1.n y1.c, .slice y2.p y2.n y2.c] 56)) := (Below.refl _ _).alloc (Nat.le_refl _) _
  refine ⟨row_own (S := SH) w5 56 [y1, y2] rfl (by omega) hb.size, rfl, fun k hk hk' => ?_, fun k hk a e => ?_, bstep (Nat.le_refl _) hb hB⟩
  · match k, hk with
    | 0, _ => exact h1.below hB
    | 1, _ => exact h2.below hB
  · have hs : (w5.alloc (.cells #[.slice y1.p y1.n y1.c, .slice y2.p y2.n y2.c] 56)).heap.size = w5.heap.size + 1 := World.size_alloc _ _
    have key : ∀ a : Addr, w.heap.size ≤ a.block ∧ a.block < w5.heap.size → (Value.slice (some ⟨w5.heap.size, 0, none⟩) 2 2).ownBlock ≠ some a.block ∧ w.heap.size ≤ a.block ∧ a.block < (w5.alloc (.cells #[.slice y1.p y1.n y1.c, .slice y2.p y2.n y2.c] 56)).heap.size := fun a ⟨x1, x2⟩ =>
      ⟨fun e => by simp only [Value.ownBlock] at e; injection e with e; omega, x1, by omega⟩
    match k, hk with
    | 0, _ => exact key a (a1 a e)
    | 1, _ => exact key a (a2 a e)

end Go.Proofs.YtflcdkibjakciaaGreatDoor
