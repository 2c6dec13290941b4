/-
  PACKED (pack8.py): what is needed of the texts Ew, Pw, Yq, Yu, Yv, Af, W1.
-/
import Derived.Test.YtmlfcpglhipjgaaGreatM6
set_option maxRecDepth 100000
set_option maxHeartbeats 4000000
open Go.Value renaming int → I
open Go.IntKind renaming i64 → O
namespace Go.Proofs.YtmlfcpglhipjgaaGreat
open Go.RowKit
theorem scale_bad (e u : Int) (p : Option Addr) (l : List Int) (cap : Nat) (w : World) (h : Ints w p l) (hg : En.err e u l ≠ 0) :
  Calls Tryz.prog 70 #[I O e, I O u, .slice p l.length cap] w (GivesNew w (En.scale e u l) (En.err e u l)) := by
 have hs : En.scale e u l = [] := by unfold En.scale; rw [if_neg hg]
 rw [hs]; have hc := mh (count_bad e u p l cap w h hg); clear h hs
 go_enter Tryz.func70, Tryz.ntmps70
 go_wp2_with (first | (go_at_call 105; refine (hc.out).mono ?_; rintro en w1 ⟨rfl, hb1⟩))
 go_ret2
 exact ⟨none, 0, rfl, Ints.nil _ _, hb1.alloc hb1.size _, fun _ h => by cases h⟩
theorem shList_bd {t : Int} {zs : List Int} (he : shErr t zs = 0) : (∀ x ∈ shList t zs, 0 ≤ x ∧ x ≤ t) ∧ (shList t zs).length = zs.length := by
 have h1 : ¬ 64 < zs.length := fun h => by unfold shErr at he; rw [if_pos h] at he; omega
 have h2 : ¬ (Sh.limited t = false ∨ (zs.any fun x => !Sh.limited x) = true) := fun h => by unfold shErr at he; rw [if_neg h1, if_pos h] at he; omega
 have ht : Sh.limited t = true := by simpa using fun h => h2 (.inl h)
 have hz : (zs.any fun x => !Sh.limited x) = false := by simpa using fun h => h2 (.inr h)
 have ht' := Sh.limited_iff.1 ht; unfold shList; rw [if_neg (by rw [he]; simp)]
 split
 ·refine ⟨fun x hx => ?_, by simp⟩
  rw [List.eq_of_mem_replicate hx]; omega
 ·rename_i hs
  have hR : Sh.Right t zs := any_odd ht hz hs; have h0 : ∀ x ∈ Sh.shares t zs, 0 ≤ x := fun x hx => by
   obtain ⟨i, _, rfl⟩ := List.mem_map.1 hx; exact (hR.share_bd i).1
  refine ⟨fun x hx => ⟨h0 x hx, ?_⟩, by unfold Sh.shares; simp⟩
  rw [← hR.total]; exact Sh.le_sum h0 hx
theorem units_ok {e u : Int} {l : List Int} (h : En.Good e u l) : shErr (e / u) (En.units u l) = 0 := by
 have h1 : Sh.limited (e / u) = true := Sh.limited_iff.2 ⟨Int.ediv_nonneg h.e0 (by have := h.u0; omega), by have := Int.ediv_le_self u h.e0; have := h.e1; omega⟩; have h2 : ((En.units u l).any fun x => !Sh.limited x) = false := by
  rw [List.any_eq_false]; intro x hx; have := h.unit x hx; rw [Sh.limited_iff.2 ⟨this.1, by omega⟩]
  simp
 unfold shErr; rw [if_neg (by rw [En.units_len]; have := h.len; omega), if_neg (by rw [h1, h2]; simp)]
theorem shares_len (t : Int) (p : Option Addr) (zs : List Int) (n cap : Nat) (w : World) (h : Ints w p zs) (hn : zs.length = n) (he : shErr t zs = 0) :
  Calls Tryz.prog 107 #[I O t, .slice p n cap] w (GivesInts w (shList t zs) 0) := by subst hn; rw [← he]; exact shares_any t p zs cap w h
theorem scale_good (e u : Int) (p : Option Addr) (l : List Int) (cap : Nat) (w : World) (h : Ints w p l) (hg : En.err e u l = 0) :
  Calls Tryz.prog 70 #[I O e, I O u, .slice p l.length cap] w (GivesNew w (En.scale e u l) 0) := by
 have hG := mh (En.good_of hg); have hc := mh (count_good e u p l cap w h hG.out); have HL := mh (@En.units_len u l); have HE := mh (units_ok hG.out); clear h
 by_cases hq : e / u < En.usum u l
 ·have hd : decide (e / u < En.usum u l) = true := dqt hq
  go_enter Tryz.func70, Tryz.ntmps70
  go_wp2_with (first | (go_at_call 105; refine (hc.out).mono ?_; rintro en w1 ⟨q, c, rfl, hI, hb1⟩) | (go_at_call 106; refine (scaledu_any _ _ _ _).mono ?_; rintro en w2 ⟨rfl, hb2⟩; have hI2 := ((hI.below ((brf _ _).alloc mle (Obj.cells #[I O (e / u), .slice q l.length c, I O (En.usum u l)] 164))).below hb2); have k0 := (hb2.cell (p := ⟨w1.heap.size, 0, none⟩) (by simp)).trans (show _ = some (Value.int .i64 (e / u)) by go_simp); have k1 := (hb2.cell (p := ⟨w1.heap.size, 1, none⟩) (by simp)).trans (show _ = some (Value.slice q l.length c) by go_simp)) | (go_at_call 107; refine (shares_len _ _ _ _ _ _ hI2 HL.out HE.out).mono ?_; rintro en w3 ⟨p3, c3, rfl, hI3, hb3⟩))
  have hsc : En.scale e u l = (shList (e / u) (En.units u l)).map fun x => x * u := by unfold En.scale En.paid; rw [if_pos hg, if_pos hq]
  have hzb : ∀ x ∈ shList (e / u) (En.units u l), 0 ≤ x ∧ x ≤ 68719476736 := fun x hx => by
   have h := (shList_bd HE.out).1 x hx; have := Int.ediv_le_self u hG.out.e0; have := hG.out.e1; omega
  have hzn : (shList (e / u) (En.units u l)).length ≤ 64 := by rw [(shList_bd HE.out).2, En.units_len]; exact hG.out.len
  have hbel : Below w.heap.size w w3 := bnext (bnext (hb1.alloc hb1.size _) (by have := hb1.size; simp; omega) hb2) (by have := hb1.size; have := hb2.size; simp at this; omega) hb3; have hIz := hI3; have hsc := mh hsc; clear hI2 hI hI3 hb1 hb2 hb3 k0 k1 HL HE hc hd hq hg; generalize shList (e / u) (En.units u l) = zs at *; obtain ⟨wz, rfl⟩ : ∃ wz : World, wz = w3 := ⟨_, rfl⟩; obtain ⟨i0, hi, hz0, hz1, hz2⟩ := info_parts info_int; have HI := mh (And.intro hi (And.intro hz0 (And.intro hz1 hz2))); clear hi hz0 hz1 hz2; have u1 := hG.out.u1; have u0 := hG.out.u0; have BEL := mh hbel; have HZ := mh hIz; have ZB := mh hzb; have hzl := hIz.len; clear hbel hIz hzb
  go_loopw [41, 11] (fun i v wr => ∃ k : Nat, k ≤ zs.length ∧ i = I O k ∧ Own wr 3 wz.heap.size v ((zs.take k).map fun x => x * u) ∧ Below wz.heap.size wz wr) (fun i _ _ => zs.length - (intOf i).toNat)
  case atStart => exact ⟨0, Nat.zero_le _, rfl, Own.nil _ _ _, brf _ _⟩
  case round =>
   obtain ⟨k, hk, rfl, hown, hbw⟩ := hrel; have HO := mh hown; have HB := mh hbw; have hsz := hbw.size
   by_cases hlt : k < zs.length
   ·obtain ⟨b, off, x, rfl, hbl, hcell0, hx⟩ := HZ.out.get hlt
    have hcell := (hbw.cell (p := ⟨b, off + k, none⟩) hbl).trans hcell0; have hst := mh (En.take_snoc hlt); have hxb : 0 ≤ x ∧ x ≤ 68719476736 := by
     rw [← hx.out, List.getD_eq_getElem?_getD, List.getElem?_eq_getElem hlt]; exact ZB.out _ (List.getElem_mem hlt)
    have hm0 : 0 ≤ x * u := Int.mul_nonneg hxb.1 (by omega); have hm1 : x * u ≤ 68719476736 * 100000 := Int.mul_le_mul hxb.2 u1 (by omega) (by omega); have hmw : IntKind.i64.wrap (x * u) = x * u := by
     generalize x * u = y at hm0 hm1 ⊢; rw [IntKind.wrap_i64]; omega
    clear hown hbw hcell0
    go_wp2_with (first | (at_builtin; (refine Own.append HI.out.1 HI.out.2.1 HI.out.2.2.1 HI.out.2.2.2 Tryz.underlying22 rfl (.tmp 45) (.tmp 49) rfl wz.heap.size _ _ _ HO.out rfl rfl (by omega) (by rw [List.length_map, List.length_take]; omega) ?_); intro v1 w5 hown1 hb5))
    have HO5 := mh hown1; have HB5 := mh (HB.out.trans hb5); clear hown1 hb5
    go_roundw
    case rel => exact ⟨k + 1, by omega, by go_num, by rw [hst.out, hx.out]; simpa using HO5.out, HB5.out⟩
    case measure => simp [intOf]; omega
   ·obtain rfl : k = zs.length := by omega
    rw [List.take_length] at HO; obtain ⟨p4, c4, rfl, hI4, hn4⟩ := HO.out.intsN; have HI4 := mh hI4; have HN4 := mh hn4; clear hI4 hn4 hown hbw hlt hk
    go_wp2
    go_ret2
    exact ⟨p4, c4, by rw [hsc.out]; simp, by rw [hsc.out]; exact HI4.out, bnext BEL.out BEL.out.size HB.out, fun a h => Nat.le_trans BEL.out.size (HN4.out a h)⟩
 ·have hd : decide (e / u < En.usum u l) = false := dqf hq
  go_enter Tryz.func70, Tryz.ntmps70
  go_wp2_with (first | (go_at_call 105; refine (hc.out).mono ?_; rintro en w1 ⟨q, c, rfl, hI, hb1⟩) | (go_at_call 106; refine (scaledu_any _ _ _ _).mono ?_; rintro en w2 ⟨rfl, hb2⟩; have hI2 := ((hI.below ((brf _ _).alloc mle (Obj.cells #[I O (e / u), .slice q l.length c, I O (En.usum u l)] 164))).below hb2); have k0 := (hb2.cell (p := ⟨w1.heap.size, 0, none⟩) (by simp)).trans (show _ = some (Value.int .i64 (e / u)) by go_simp); have k1 := (hb2.cell (p := ⟨w1.heap.size, 1, none⟩) (by simp)).trans (show _ = some (Value.slice q l.length c) by go_simp)))
  rw [← HL.out]; have hsc := mh (show En.scale e u l = (En.units u l).map fun x => x * u by unfold En.scale En.paid; rw [if_pos hg, if_neg (by omega)]); have hzb : ∀ x ∈ En.units u l, 0 ≤ x ∧ x ≤ 68719476736 := hG.out.unit; have hzn : (En.units u l).length ≤ 64 := by rw [En.units_len]; exact hG.out.len
  have hbel : Below w.heap.size w w2 := bnext (hb1.alloc hb1.size _) (by have := hb1.size; simp; omega) hb2; have hIz := hI2; clear hI2 hI hb1 hb2 k0 k1 HL HE hc hd hq hg; generalize En.units u l = zs at *; obtain ⟨wz, rfl⟩ : ∃ wz : World, wz = w2 := ⟨_, rfl⟩; obtain ⟨i0, hi, hz0, hz1, hz2⟩ := info_parts info_int; have HI := mh (And.intro hi (And.intro hz0 (And.intro hz1 hz2))); clear hi hz0 hz1 hz2; have u1 := hG.out.u1; have u0 := hG.out.u0; have BEL := mh hbel; have HZ := mh hIz; have ZB := mh hzb; have hzl := hIz.len; clear hbel hIz hzb
  go_loopw [41, 11] (fun i v wr => ∃ k : Nat, k ≤ zs.length ∧ i = I O k ∧ Own wr 3 wz.heap.size v ((zs.take k).map fun x => x * u) ∧ Below wz.heap.size wz wr) (fun i _ _ => zs.length - (intOf i).toNat)
  case atStart => exact ⟨0, Nat.zero_le _, rfl, Own.nil _ _ _, brf _ _⟩
  case round =>
   obtain ⟨k, hk, rfl, hown, hbw⟩ := hrel; have HO := mh hown; have HB := mh hbw; have hsz := hbw.size
   by_cases hlt : k < zs.length
   ·obtain ⟨b, off, x, rfl, hbl, hcell0, hx⟩ := HZ.out.get hlt
    have hcell := (hbw.cell (p := ⟨b, off + k, none⟩) hbl).trans hcell0; have hst := mh (En.take_snoc hlt); have hxb : 0 ≤ x ∧ x ≤ 68719476736 := by
     rw [← hx.out, List.getD_eq_getElem?_getD, List.getElem?_eq_getElem hlt]; exact ZB.out _ (List.getElem_mem hlt)
    have hm0 : 0 ≤ x * u := Int.mul_nonneg hxb.1 (by omega); have hm1 : x * u ≤ 68719476736 * 100000 := Int.mul_le_mul hxb.2 u1 (by omega) (by omega); have hmw : IntKind.i64.wrap (x * u) = x * u := by
     generalize x * u = y at hm0 hm1 ⊢; rw [IntKind.wrap_i64]; omega
    clear hown hbw hcell0
    go_wp2_with (first | (at_builtin; (refine Own.append HI.out.1 HI.out.2.1 HI.out.2.2.1 HI.out.2.2.2 Tryz.underlying22 rfl (.tmp 45) (.tmp 49) rfl wz.heap.size _ _ _ HO.out rfl rfl (by omega) (by rw [List.length_map, List.length_take]; omega) ?_); intro v1 w5 hown1 hb5))
    have HO5 := mh hown1; have HB5 := mh (HB.out.trans hb5); clear hown1 hb5
    go_roundw
    case rel => exact ⟨k + 1, by omega, by go_num, by rw [hst.out, hx.out]; simpa using HO5.out, HB5.out⟩
    case measure => simp [intOf]; omega
   ·obtain rfl : k = zs.length := by omega
    rw [List.take_length] at HO; obtain ⟨p4, c4, rfl, hI4, hn4⟩ := HO.out.intsN; have HI4 := mh hI4; have HN4 := mh hn4; clear hI4 hn4 hown hbw hlt hk
    go_wp2
    go_ret2
    exact ⟨p4, c4, by rw [hsc.out]; simp, by rw [hsc.out]; exact HI4.out, bnext BEL.out BEL.out.size HB.out, fun a h => Nat.le_trans BEL.out.size (HN4.out a h)⟩
end Go.Proofs.YtmlfcpglhipjgaaGreat
namespace Go.Proofs.YtmlfcpglhipjgaaGreat.En
variable {e u : Int} {l : List Int}
theorem Good.right (h : Good e u l) (hq : e / u < En.usum u l) : Sh.Right (e / u) (units u l) ∧ shList (e / u) (units u l) = Sh.shares (e / u) (units u l) := by
 have hE := units_ok h; have e0 : 0 ≤ e / u := Int.ediv_nonneg h.e0 (by have := h.u0; omega); have hs : Sh.sum (units u l) ≠ 0 := by unfold En.usum at hq; omega
 have h1 : ¬ 64 < (units u l).length := by rw [units_len]; have := h.len; omega
 have h2 : ¬ (Sh.limited (e / u) = false ∨ ((units u l).any fun x => !Sh.limited x) = true) := fun hh => by unfold shErr at hE; rw [if_neg h1, if_pos hh] at hE; omega
 refine ⟨any_odd (by simpa using fun h => h2 (.inl h)) (by simpa using fun h => h2 (.inr h)) hs, ?_⟩
 unfold shList; rw [if_neg (by rw [hE]; simp), if_neg hs]
theorem Good.paid_scaled (h : Good e u l) (hq : e / u < En.usum u l) : paid e u l = Sh.shares (e / u) (units u l) := by
 unfold paid; rw [if_pos hq]; exact (h.right hq).2
theorem paid_enough (hq : ¬ e / u < En.usum u l) : paid e u l = units u l := by unfold paid; rw [if_neg hq]
theorem units_getD (i : Nat) (hi : i < l.length) : (units u l).getD i 0 = l.getD i 0 / u := by
 unfold units; simp [List.getD_eq_getElem?_getD, hi]
theorem Good.paid_len (h : Good e u l) : (paid e u l).length = l.length := by
 by_cases hq : e / u < En.usum u l
 ·rw [h.paid_scaled hq]; unfold Sh.shares; simp [units_len]
 ·rw [paid_enough hq, units_len]
theorem Good.scale_eq (h : Good e u l) : scale e u l = (paid e u l).map fun x => x * u := by unfold scale; rw [if_pos (err_of h)]
theorem Good.scale_len (h : Good e u l) : (scale e u l).length = l.length := by rw [h.scale_eq, List.length_map, h.paid_len]
theorem Good.scale_getD (h : Good e u l) (i : Nat) (hi : i < l.length) : (scale e u l).getD i 0 = (paid e u l).getD i 0 * u := by
 have hl := h.paid_len; rw [h.scale_eq]
 simp [List.getD_eq_getElem?_getD, hl, hi]
theorem Good.at (h : Good e u l) (i : Nat) (hi : i < l.length) : 0 ≤ l.getD i 0 ∧ l.getD i 0 ≤ 68719476736 := by
 rw [List.getD_eq_getElem?_getD, List.getElem?_eq_getElem hi]; exact h.all _ (List.getElem_mem hi)
theorem Good.paid_bd (h : Good e u l) (i : Nat) (hi : i < l.length) : 0 ≤ (paid e u l).getD i 0 ∧ (paid e u l).getD i 0 ≤ l.getD i 0 / u := by
 have hu := h.unit
 by_cases hq : e / u < En.usum u l
 ·have hR := (h.right hq).1
  rw [h.paid_scaled hq, Sh.shares_getD _ _ _ (by rw [units_len]; exact hi), ← units_getD i hi]; exact ⟨(hR.share_bd i).1, hR.share_le hq (by rw [units_len]; exact hi)⟩
 ·rw [paid_enough hq, units_getD i hi]
  exact ⟨Int.ediv_nonneg (h.at i hi).1 (by have := h.u0; omega), Int.le_refl _⟩
theorem Good.paid_mono (h : Good e u l) (i k : Nat) (hi : i < l.length) (hk : k < l.length) (hlt : l.getD k 0 / u < l.getD i 0 / u) : (paid e u l).getD k 0 ≤ (paid e u l).getD i 0 := by
 by_cases hq : e / u < En.usum u l
 ·have hR := (h.right hq).1
  rw [h.paid_scaled hq, Sh.shares_getD _ _ i (by rw [units_len]; exact hi), Sh.shares_getD _ _ k (by rw [units_len]; exact hk)]; exact hR.share_mono (by rw [units_len]; exact hk) (by rw [units_len]; exact hi) (by rw [units_getD k hk, units_getD i hi]; exact hlt)
 ·rw [paid_enough hq, units_getD i hi, units_getD k hk]; omega
theorem Good.paid_sum (h : Good e u l) : Sh.sum (paid e u l) ≤ e / u ∧ (e / u < En.usum u l → Sh.sum (paid e u l) = e / u) ∧ (¬ e / u < En.usum u l → Sh.sum (paid e u l) = En.usum u l) := by
 by_cases hq : e / u < En.usum u l
 ·have hR := (h.right hq).1
  rw [h.paid_scaled hq, hR.total]; exact ⟨Int.le_refl _, fun _ => rfl, fun hn => absurd hq hn⟩
 ·rw [paid_enough hq]
  exact ⟨by unfold En.usum at hq; omega, fun hn => absurd hn hq, fun _ => rfl⟩
theorem Good.scale_sum (h : Good e u l) : Sh.sum (scale e u l) = u * Sh.sum (paid e u l) := by
 have e1 := Sh.sum_map_mul u (fun x => x) (paid e u l); rw [List.map_id'] at e1; rw [h.scale_eq, ← e1]
 congr 1
 apply List.map_congr_left
 intro x _; exact Int.mul_comm _ _
structure Keeps (e u : Int) (l s : List Int) : Prop where
 len : s.length = l.length
 at_ : ∀ i, i < l.length → 0 ≤ s.getD i 0 ∧ s.getD i 0 ≤ l.getD i 0 ∧ s.getD i 0 % u = 0
 mono : ∀ i k, i < l.length → k < l.length → l.getD k 0 / u < l.getD i 0 / u → s.getD k 0 ≤ s.getD i 0
 sum : Sh.sum s ≤ e
 near : scaled e u l = true → e - Sh.sum s < u
theorem Good.keeps (h : Good e u l) : Keeps e u l (scale e u l) := by
 have u0 := h.u0; have hs := h.paid_sum; have hd := Int.emod_add_mul_ediv e u; have r0 := Int.emod_nonneg e (show u ≠ 0 by omega); have r1 := Int.emod_lt_of_pos e (show 0 < u by omega); refine ⟨h.scale_len, fun i hi => ?_, fun i k hi hk hlt => ?_, ?_, fun hsc => ?_⟩
 ·have hb := h.paid_bd i hi
  have ha := h.at i hi; rw [h.scale_getD i hi]; refine ⟨Int.mul_nonneg hb.1 (by omega), ?_, Int.mul_emod_left _ _⟩; have h1 : (paid e u l).getD i 0 * u ≤ l.getD i 0 / u * u := Int.mul_le_mul_of_nonneg_right hb.2 (by omega); have h2 := Int.ediv_mul_le (l.getD i 0) (show u ≠ 0 by omega); omega
 ·rw [h.scale_getD i hi, h.scale_getD k hk]
  exact Int.mul_le_mul_of_nonneg_right (h.paid_mono i k hi hk hlt) (by omega)
 ·rw [h.scale_sum]
  have : u * Sh.sum (paid e u l) ≤ u * (e / u) := Int.mul_le_mul_of_nonneg_left hs.1 (by omega); omega
 ·have hq : e / u < En.usum u l := by
   unfold scaled at hsc; simp only [Bool.and_eq_true, decide_eq_true_eq] at hsc; exact hsc.2
  rw [h.scale_sum, hs.2.1 hq]; omega
end Go.Proofs.YtmlfcpglhipjgaaGreat.En
namespace Go.Proofs.YtmlfcpglhipjgaaGreat.As
open Sc Go.RowKit
theorem chk17_zero {L : List Sch} (h : (chk17 L).2 = 0) : chk17 L = (-1, 0) := by
 unfold chk17 at h ⊢
 by_cases h16 : 16 < L.length
 ·rw [if_pos h16] at h; cases h
 rw [if_neg h16] at h ⊢
 cases hA : fst (errA L) L.length with
 | some i =>
   rw [hA] at h; have := List.find?_some (show ((List.range L.length).find? fun i => errA L i != 0) = some i from hA); simp only [bne_iff_ne] at this; exact absurd h this
 | none =>
   rw [hA] at h; simp only at h ⊢
   cases hB : fst (errB L) L.length with
   | some i => rw [hB] at h; cases h
   | none => rfl
theorem chkY_ok {l : YLaw} (h : chkY l = 0) : YOk l := by
 unfold chkY at h
 by_cases h1 : l.sch.length = 0
 ·rw [if_pos h1] at h; omega
 rw [if_neg h1] at h
 by_cases h2 : (chk17 l.sch).2 ≠ 0
 ·rw [if_pos h2] at h; exact absurd h h2
 rw [if_neg h2] at h
 by_cases h3 : Re.chk l.steps ≠ 0
 ·rw [if_pos h3] at h; exact absurd h h3
 rw [if_neg h3] at h
 by_cases h4 : chkL l.late ≠ 0
 ·rw [if_pos h4] at h; exact absurd h h4
 rw [if_neg h4] at h
 by_cases h5 : Ce.chk l.deg ≠ 0
 ·rw [if_pos h5] at h; exact absurd h h5
 rw [if_neg h5] at h
 by_cases h6 : En.money l.cap = false ∨ En.money l.env = false
 ·rw [if_pos h6] at h; omega
 rw [if_neg h6] at h
 by_cases h7 : l.unit < 1 ∨ 100000 < l.unit ∨ l.width < 0 ∨ 200 < l.width
 ·rw [if_pos h7] at h; omega
 have m : ∀ n, ¬ En.money n = false → 0 ≤ n ∧ n ≤ 68719476736 := fun n hn => En.money_iff.1 (by simpa using hn)
 exact ⟨h1, chk17_zero (by omega), Re.chk_zero.1 (by omega), latOk (by omega), Ce.chk_zero.1 (by omega), m _ fun e => h6 (.inl e), m _ fun e => h6 (.inr e), by omega, by omega⟩
structure LineOk (l : YLaw) (x : LineF) : Prop where
 bits : bits BinOp.andNot IntKind.i64 x.sch (allV l.sch) = 0
 len : x.due.length = l.sch.length
 d0 : 0 ≤ x.decl
 d1 : x.decl ≤ 268435456
 fact : ∀ k s, l.sch[k]? = some s → namesB x s = true → chk28 (factOf x k) l.width = 0
 no : ∀ k s, l.sch[k]? = some s → namesB x s = false → x.due.getD k 0 = 0
theorem lineOk {l : YLaw} {x : LineF} : lineB l x = true ↔ LineOk l x := by
 unfold lineB; simp only [Bool.and_eq_true, decide_eq_true_eq, List.all_eq_true, List.mem_range]
 constructor
 ·rintro ⟨h1, h2, h3, h4, h5⟩
  refine ⟨h1, h2, h3, h4, fun k s e hn => ?_, fun k s e hn => ?_⟩
  all_goals
   have := h5 k (List.getElem?_eq_some_iff.1 e).1; unfold schOk at this; rw [e] at this; simp only [hn, if_true, if_false, Bool.false_eq_true, decide_eq_true_eq] at this; exact this
 ·intro h
  refine ⟨h.bits, h.len, h.d0, h.d1, fun k hk => ?_⟩
  unfold schOk; rw [List.getElem?_eq_getElem hk]; simp only
  cases hn : namesB x l.sch[k] with
  | true => simp only [if_true, decide_eq_true_eq]; exact h.fact k _ (List.getElem?_eq_getElem hk) hn
  | false => simp only [Bool.false_eq_true, if_false, decide_eq_true_eq]; exact h.no k _ (List.getElem?_eq_getElem hk) hn
structure FarmOk (l : YLaw) (f : FarmF) : Prop where
 f0 : 1 ≤ f.farm
 f1 : f.farm ≤ 60
 d0 : 0 ≤ f.day
 d1 : f.day ≤ 36864
 len : f.lines.length ≤ 20
 line : ∀ x ∈ f.lines, LineOk l x
 sum : declSum f.lines ≤ 268435456
theorem farmOk {l : YLaw} {f : FarmF} : farmB l f = true ↔ FarmOk l f := by
 unfold farmB; simp only [Bool.and_eq_true, decide_eq_true_eq, List.all_eq_true]
 constructor
 ·rintro ⟨h1, h2, h3, h4, h5, h6, h7⟩
  exact ⟨h1, h2, h3, h4, h5, fun x hx => lineOk.1 (h6 x hx), h7⟩
 ·intro h
  exact ⟨h.f0, h.f1, h.d0, h.d1, h.len, fun x hx => lineOk.2 (h.line x hx), h.sum⟩
structure FOk (l : YLaw) (F : List FarmF) : Prop where
 law : YOk l
 len : F.length ≤ 10
 farm : ∀ f ∈ F, FarmOk l f
 asc : ∀ i (h : i + 1 < F.length), F[i].farm < F[i + 1].farm
theorem fOk {l : YLaw} {F : List FarmF} (h : chkF l F = 0) : FOk l F := by
 unfold chkF at h
 by_cases h1 : chkY l ≠ 0
 ·rw [if_pos h1] at h; exact absurd h h1
 rw [if_neg h1] at h
 by_cases h2 : 10 < F.length
 ·rw [if_pos h2] at h; omega
 rw [if_neg h2] at h
 by_cases h3 : (List.range F.length).all (farmAt l F) = true
 ·have at_ : ∀ i (hi : i < F.length), farmAt l F i = true := fun i hi => List.all_eq_true.1 h3 i (List.mem_range.2 hi)
  refine ⟨chkY_ok (by omega), by omega, fun f hf => ?_, fun i hi => ?_⟩
  ·obtain ⟨i, hi, rfl⟩ := List.mem_iff_getElem.1 hf
   have := at_ i hi; unfold farmAt at this; rw [List.getElem?_eq_getElem hi] at this; simp only [Bool.and_eq_true] at this; exact farmOk.1 this.1
  ·have := at_ (i + 1) hi
   unfold farmAt at this; rw [List.getElem?_eq_getElem hi] at this; simp only [Bool.and_eq_true] at this; have h4 := this.2; rw [List.getElem?_eq_getElem (by omega)] at h4
   simpa using h4
 ·rw [if_neg h3] at h; omega
theorem YOk.chk {l : YLaw} (h : YOk l) : chkY l = 0 := by
 have m : ∀ n : Int, 0 ≤ n ∧ n ≤ 68719476736 → ¬ En.money n = false := fun n hn e => by rw [En.money_iff.2 hn] at e; cases e
 have hl := h.late; have h1 := hl.d0; have h2 := hl.d1; have h3 := hl.d2; have h4 := hl.m0; have h5 := hl.m1; have h6 := h.unit; have h7 := h.width; unfold chkY
 rw [if_neg h.ne, if_neg (by rw [h.sch]; decide), if_neg (by rw [Re.chk_zero.2 h.steps]; decide), if_neg (by unfold chkL; rw [if_neg (by omega)]; decide), if_neg (by rw [Ce.chk_zero.2 h.deg]; decide),
  if_neg fun e => e.elim (m _ h.cap) (m _ h.env), if_neg (by omega)]
theorem FOk.chk {l : YLaw} {F : List FarmF} (h : FOk l F) : chkF l F = 0 := by
 unfold chkF; have h2 := h.len; rw [if_neg (by rw [h.law.chk]; decide), if_neg (by omega), if_pos]; rw [List.all_eq_true]; intro i hi; have hi := List.mem_range.1 hi; unfold farmAt; rw [List.getElem?_eq_getElem hi]; simp only [Bool.and_eq_true]; refine ⟨farmOk.2 (h.farm _ (List.getElem_mem hi)), ?_⟩
 cases i with
 | zero => rfl
 | succ k =>
   simp only; rw [List.getElem?_eq_getElem (by omega)]
   simpa using h.asc k hi
theorem FOk.one {l : YLaw} {F : List FarmF} (h : FOk l F) {f : FarmF} (hf : f ∈ F) : FOk l [f] :=
 ⟨h.law, by simp, fun g hg => by rw [List.mem_singleton.1 hg]; exact h.farm f hf, fun i hi => by simp at hi⟩
/-! ### sums -/
section sums
variable {l : YLaw} {k : Nat} {s : Sch} {K : List LineF}
theorem sumD_bd (h : ∀ x ∈ K, 0 ≤ x.decl) : 0 ≤ sumD s K ∧ sumD s K ≤ declSum K := by
 unfold sumD declSum; refine ⟨Sh.sum_nonneg fun y hy => ?_, Sh.sum_map_le fun x hx => ?_⟩
 ·obtain ⟨x, hx, rfl⟩ := List.mem_map.1 hy
  have := h x hx
  split <;> omega
 ·have := h x hx
  split <;> omega
theorem line_det (hl : YOk l) (hx : ∀ x ∈ K, LineOk l x) (hk : l.sch[k]? = some s) {x : LineF} (h : x ∈ K) (hn : namesB x s = true) :
  0 ≤ (det (factOf x k) l.width).1 ∧ (det (factOf x k) l.width).1 ≤ x.decl ∧ ((det (factOf x k) l.width).2 = 0 ↔ (det (factOf x k) l.width).1 = x.decl) := by
 have f := (chk28_zero ((hx x h).fact k s hk hn)).1.det hl.width.1 hl.width.2; exact ⟨f.1, f.2.1, f.2.2.1⟩
theorem sumN_bd (hl : YOk l) (hx : ∀ x ∈ K, LineOk l x) (hk : l.sch[k]? = some s) : 0 ≤ sumN l k s K ∧ sumN l k s K ≤ sumD s K := by
 unfold sumN sumD; refine ⟨Sh.sum_nonneg fun y hy => ?_, Sh.sum_map_le fun x h => ?_⟩
 ·obtain ⟨x, h, rfl⟩ := List.mem_map.1 hy
  split
  ·rename_i hn; exact (line_det hl hx hk h hn).1
  ·omega
 ·split
  ·rename_i hn; exact (line_det hl hx hk h hn).2.1
  ·omega
end sums
/-! ### one award -/
structure AwOk (a : Awd) : Prop where
 n0 : 0 ≤ a.det
 nd : a.det ≤ a.decl
 d1 : a.decl ≤ 268435456
 p0 : 0 ≤ a.paid
 pn : a.paid ≤ a.det
 r0 : 0 ≤ a.rated
 r1 : a.rated ≤ 68719476736
 t0 : 0 ≤ a.timely
 tr : a.timely ≤ a.rated
theorem YOk.one {l : YLaw} (h : YOk l) {k : Nat} {s : Sch} (hk : l.sch[k]? = some s) : one17 s = 0 := by
 obtain ⟨hk', rfl⟩ := List.getElem?_eq_some_iff.1 hk; exact (lawOk h.sch).one _ (List.getElem_mem hk')
theorem paidOf_bd {l : YLaw} (hl : YOk l) (s : Sch) {d n : Int} (n0 : 0 ≤ n) (nd : n ≤ d) (d1 : d ≤ 268435456) : 0 ≤ paidOf l s d n ∧ paidOf l s d n ≤ n := by
 unfold paidOf
 split
 ·have e : Re.paidErr l.steps d n = 0 := by
   unfold Re.paidErr; rw [if_neg (by rw [Re.chk_zero.2 hl.steps]; decide), if_neg]; rintro (e | e)
   ·rw [Re.area_iff.2 ⟨by omega, d1⟩] at e; cases e
   ·rw [Re.area_iff.2 ⟨n0, by omega⟩] at e; cases e
  unfold Re.paidVal; rw [if_neg (by omega)]; have := hl.steps.paid_bd (d := d) (f := n) (by omega) n0; omega
 ·omega
theorem award_ok {l : YLaw} {f : FarmF} (hl : YOk l) (hf : FarmOk l f) {k : Nat} {s : Sch} (hk : l.sch[k]? = some s) (amt0 : ∀ p, 0 ≤ p → p ≤ 268435456 → 0 ≤ amtV s p) : AwOk (award l f k s) := by
 have b1 := sumD_bd (s := s) fun x hx => (hf.line x hx).d0
 have b2 := sumN_bd hl hf.line hk; have b3 := hf.sum; have b4 := paidOf_bd hl s b2.1 b2.2 (by omega); have b5 := amt0 _ b4.1 (by omega); have r0 : 0 ≤ ratedOf s (paidOf l s (sumD s f.lines) (sumN l k s f.lines)) := by unfold ratedOf; omega
 have r1 : ratedOf s (paidOf l s (sumD s f.lines) (sumN l k s f.lines)) ≤ 68719476736 := by unfold ratedOf; omega
 have t := hl.late.left f.day r0; exact ⟨b2.1, b2.2, by show sumD s f.lines ≤ _; omega, b4.1, b4.2, r0, r1, t.1, t.2⟩
theorem mem_awardsN {l : YLaw} {f : FarmF} {n : Nat} {a : Awd} : a ∈ awardsN l f n ↔ ∃ k s, k < n ∧ l.sch[k]? = some s ∧ someN s f.lines = true ∧ a = award l f k s := by
 induction n with
 | zero => simp [awardsN]
 | succ n ih =>
   unfold awardsN awStep; rw [List.mem_append, ih]
   constructor
   ·rintro (⟨k, s, h1, h2, h3, h4⟩ | h)
    ·exact ⟨k, s, by omega, h2, h3, h4⟩
    ·cases e : l.sch[n]? with
     | none => rw [e] at h; simp at h
     | some s =>
       rw [e] at h; simp only at h
       split at h
       ·rename_i hs
        exact ⟨n, s, by omega, e, hs, List.mem_singleton.1 h⟩
       ·simp at h
   ·rintro ⟨k, s, h1, h2, h3, h4⟩
    by_cases hk : k < n
    ·exact .inl ⟨k, s, hk, h2, h3, h4⟩
    ·obtain rfl : k = n := by omega
     right
     rw [h2]; simp only [h3, if_true]; exact List.mem_singleton.2 h4
theorem awardsN_len (l : YLaw) (f : FarmF) (n : Nat) : (awardsN l f n).length ≤ n := by
 induction n with
 | zero => simp [awardsN]
 | succ n ih =>
   unfold awardsN; rw [lap]; have : (awStep l f n).length ≤ 1 := by
    unfold awStep
    split
    ·split <;> simp
    ·simp
   omega
theorem awardsN_asc {l : YLaw} (hl : YOk l) (f : FarmF) (n : Nat) : (awardsN l f n).Pairwise fun a b => a.scheme < b.scheme := by
 induction n with
 | zero => simp [awardsN]
 | succ n ih =>
   unfold awardsN; rw [List.pairwise_append]; unfold awStep; refine ⟨ih, ?_, fun a ha b hb => ?_⟩
   ·split
    ·split <;> simp
    ·simp
   ·cases e : l.sch[n]? with
    | none => rw [e] at hb; simp at hb
    | some s =>
      rw [e] at hb; simp only at hb
      split at hb
      ·obtain ⟨k, s', h1, h2, h3, rfl⟩ := mem_awardsN.1 ha
       rw [List.mem_singleton.1 hb]; obtain ⟨hn, rfl⟩ := List.getElem?_eq_some_iff.1 e; obtain ⟨hk, rfl⟩ := List.getElem?_eq_some_iff.1 h2; exact (lawOk hl.sch).asc k n hk hn h1
      ·simp at hb
end Go.Proofs.YtmlfcpglhipjgaaGreat.As
namespace Go.Proofs.YtmlfcpglhipjgaaGreat.As
open Sc Go.RowKit
/-! ### amounts by brackets are never negative -/
theorem amt_nonneg {s : Sch} (h : one17 s = 0) (p : Int) : 0 ≤ amtV s p := by
 unfold amtV
 split
 ·omega
 ·have hb := (one_parts h).2.2.2.2.2.1
  have : ∀ k, k ≤ s.br.length → 0 ≤ amt s.br p k := by
   intro k
   induction k with
   | zero => intro _; simp [amt]
   | succ k ih =>
     intro hk; have := ih (by omega); unfold amt; rw [List.getElem?_eq_getElem (by omega)]; simp only; have r := (br_right (show k < s.br.length by omega) (brAll_mono (show k + 1 ≤ s.br.length by omega) (brB_all hb))).2.2.1; have := Int.mul_nonneg (show (0 : Int) ≤ max 0 (min p s.br[k].up - upB s.br k) by omega) r; omega
  have := this _ mle; omega
theorem award_fine {l : YLaw} {f : FarmF} (hl : YOk l) (hf : FarmOk l f) {k : Nat} {s : Sch} (hk : l.sch[k]? = some s) : AwOk (award l f k s) :=
 award_ok hl hf hk fun p _ _ => amt_nonneg (hl.one hk) p
theorem awards_ok {l : YLaw} {f : FarmF} (hl : YOk l) (hf : FarmOk l f) {a : Awd} (ha : a ∈ awards0 l f) : AwOk a ∧ a.farm = f.farm ∧ a.capped = 0 ∧ a.due = 0 := by
 obtain ⟨k, s, _, hk, _, rfl⟩ := mem_awardsN.1 ha; exact ⟨award_fine hl hf hk, rfl, rfl, rfl⟩
/-! ### reasons -/
theorem mem_rsnAt {l : YLaw} {x : LineF} {i n : Nat} {r : Rsn} : r ∈ rsnAt l x i n ↔ ∃ k s, k < n ∧ l.sch[k]? = some s ∧ namesB x s = true ∧ (det (factOf x k) l.width).2 ≠ 0 ∧ r = ⟨i, s.num, (det (factOf x k) l.width).2⟩ := by
 induction n with
 | zero => simp [rsnAt]
 | succ n ih =>
   unfold rsnAt rsStep; rw [List.mem_append, ih]
   constructor
   ·rintro (⟨k, s, h1, h⟩ | h)
    ·exact ⟨k, s, by omega, h⟩
    ·cases e : l.sch[n]? with
     | none => rw [e] at h; simp at h
     | some s =>
       rw [e] at h; simp only at h
       split at h
       ·rename_i hs
        exact ⟨n, s, by omega, e, hs.1, hs.2, List.mem_singleton.1 h⟩
       ·simp at h
   ·rintro ⟨k, s, h1, h2, h3, h4, h5⟩
    by_cases hk : k < n
    ·exact .inl ⟨k, s, hk, h2, h3, h4, h5⟩
    ·obtain rfl : k = n := by omega
     right
     rw [h2]; simp only; rw [if_pos ⟨h3, h4⟩]; exact List.mem_singleton.2 h5
/-! ### the error of a farm -/
theorem tim_len (l : YLaw) (f : FarmF) : (timelies (awards0 l f)).length ≤ l.sch.length := by
 unfold timelies; rw [List.length_map]; exact awardsN_len l f _
theorem YOk.len {l : YLaw} (h : YOk l) : l.sch.length ≤ 16 := (lawOk h.sch).len
theorem farmErr_cases {l : YLaw} {F : List FarmF} (h : FOk l F) {f : FarmF} (hf : f ∈ F) : farmErr l f = 0 ∨ farmErr l f = 67 := by
 unfold farmErr; rw [if_neg (by rw [(h.one hf).chk]; decide)]; unfold Ce.farmErr; have := tim_len l f; have := h.law.len; rw [if_neg (by rw [Ce.chk_zero.2 h.law.deg]; decide), if_neg (by rw [En.money_iff.2 h.law.cap]; decide), if_neg (by omega)]; unfold Ce.sumErr
 split
 ·exact .inr rfl
 ·exact .inl rfl
theorem allErr_cases {l : YLaw} {F : List FarmF} (h : FOk l F) : ∀ G : List FarmF, (∀ g ∈ G, g ∈ F) → allErr l G = 0 ∨ allErr l G = 67
 | [], _ => .inl rfl
 | g :: G, hG => by
   unfold allErr
   split
   ·rcases farmErr_cases h (hG g List.mem_cons_self) with e | e
    ·rename_i hne; exact absurd e hne
    ·exact .inr e
   ·exact allErr_cases h G fun x hx => hG x (List.mem_cons_of_mem _ hx)
theorem allErr_append {l : YLaw} : ∀ (G H : List FarmF), allErr l (G ++ H) = if allErr l G ≠ 0 then allErr l G else allErr l H
 | [], H => by simp [allErr]
 | g :: G, H => by
   show (if farmErr l g ≠ 0 then farmErr l g else allErr l (G ++ H)) = if (if farmErr l g ≠ 0 then farmErr l g else allErr l G) ≠ 0 then (if farmErr l g ≠ 0 then farmErr l g else allErr l G) else allErr l H
   by_cases h : farmErr l g ≠ 0
   ·rw [if_pos h, if_pos h, if_pos h]
   ·rw [if_neg h, if_neg h, allErr_append G H]
/-! ### what is capped -/
theorem farm_fine {l : YLaw} {f : FarmF} (he : farmErr l f = 0) : Ce.Fine l.deg l.cap (timelies (awards0 l f)) := by
 unfold farmErr at he
 split at he
 ·rename_i h; exact absurd he h
 ·exact Ce.fine_of he
theorem setCapped_len (A : List Awd) (c : List Int) : (setCapped A c).length = A.length := by unfold setCapped; simp
theorem setCapped_at (A : List Awd) (c : List Int) (i : Nat) (h : i < (setCapped A c).length) (h' : i < A.length) : (setCapped A c)[i] = { A[i] with capped := c.getD i 0 } := by
 simp [setCapped]
theorem setDue_len (A : List Awd) (c : List Int) : (setDue A c).length = A.length := by unfold setDue; simp
theorem setDue_at (A : List Awd) (c : List Int) (i : Nat) (h : i < (setDue A c).length) (h' : i < A.length) : (setDue A c)[i] = { A[i] with due := c.getD i 0 } := by
 simp [setDue]
theorem tim_getD (A : List Awd) (i : Nat) (h : i < A.length) : (timelies A).getD i 0 = A[i].timely := by
 unfold timelies; simp [h]
theorem cap_getD (A : List Awd) (i : Nat) (h : i < A.length) : (cappeds A).getD i 0 = A[i].capped := by
 unfold cappeds; simp [h]
structure AwFine (l : YLaw) (f : FarmF) (a : Awd) : Prop where
 ok : AwOk a
 farm : a.farm = f.farm
 c0 : 0 ≤ a.capped
 ct : a.capped ≤ a.timely
 due : a.due = 0
theorem farmAw_len {l : YLaw} {f : FarmF} (he : farmErr l f = 0) : (farmAw l f).length = (awards0 l f).length := by
 unfold farmAw; rw [if_neg (by omega), setCapped_len]
theorem farmAw_at {l : YLaw} {f : FarmF} (he : farmErr l f = 0) (i : Nat) (h : i < (farmAw l f).length) (h' : i < (awards0 l f).length) :
  (farmAw l f)[i] = { (awards0 l f)[i] with capped := (Ce.farm l.deg l.cap (timelies (awards0 l f))).getD i 0 } := by
 have e : farmAw l f = setCapped (awards0 l f) (Ce.farm l.deg l.cap (timelies (awards0 l f))) := by unfold farmAw; rw [if_neg (by omega)]
 have : ∀ (X : List Awd) (hX : i < X.length), X = setCapped (awards0 l f) (Ce.farm l.deg l.cap (timelies (awards0 l f))) → X[i] = { (awards0 l f)[i] with capped := (Ce.farm l.deg l.cap (timelies (awards0 l f))).getD i 0 } := by
  rintro X hX rfl; exact setCapped_at _ _ i hX h'
 exact this _ h e
theorem farmAw_fine {l : YLaw} {f : FarmF} (hl : YOk l) (hf : FarmOk l f) {a : Awd} (ha : a ∈ farmAw l f) : AwFine l f a := by
 by_cases he : farmErr l f = 0
 ·obtain ⟨i, hi, rfl⟩ := List.mem_iff_getElem.1 ha
  have hi' : i < (awards0 l f).length := by rw [← farmAw_len he]; exact hi
  rw [farmAw_at he i hi hi']; obtain ⟨h1, h2, h3, h4⟩ := awards_ok hl hf (List.getElem_mem hi'); have hb := (farm_fine he).farm_bd i (by unfold timelies; rw [List.length_map]; exact hi'); rw [tim_getD _ i hi'] at hb; exact ⟨⟨h1.n0, h1.nd, h1.d1, h1.p0, h1.pn, h1.r0, h1.r1, h1.t0, h1.tr⟩, h2, hb.1, hb.2, h4⟩
 ·unfold farmAw at ha
  rw [if_pos he] at ha
  cases ha
theorem farmAw_asc {l : YLaw} (hl : YOk l) (f : FarmF) : (farmAw l f).Pairwise fun a b => a.scheme < b.scheme := by
 by_cases he : farmErr l f = 0
 ·rw [List.pairwise_iff_getElem]
  intro i j hi hj hij; have hi' : i < (awards0 l f).length := by rw [← farmAw_len he]; exact hi
  have hj' : j < (awards0 l f).length := by rw [← farmAw_len he]; exact hj
  rw [farmAw_at he i hi hi', farmAw_at he j hj hj']; exact List.pairwise_iff_getElem.1 (awardsN_asc hl f l.sch.length) i j hi' hj' hij
 ·unfold farmAw
  rw [if_pos he]; exact List.Pairwise.nil
/-! ### all farms -/
theorem mem_allAw {l : YLaw} {F : List FarmF} {a : Awd} : a ∈ allAw l F ↔ ∃ f ∈ F, a ∈ farmAw l f := by unfold allAw; exact List.mem_flatMap
def awLt (a b : Awd) : Prop := a.farm < b.farm ∨ a.farm = b.farm ∧ a.scheme < b.scheme
theorem asc_pairwise {F : List FarmF} (h : ∀ i (h : i + 1 < F.length), F[i].farm < F[i + 1].farm) : F.Pairwise fun f g => f.farm < g.farm := by
 rw [List.pairwise_iff_getElem]; intro i j hi hj hij; obtain ⟨k, rfl⟩ : ∃ k, j = i + 1 + k := ⟨j - (i + 1), by omega⟩; clear hij
 induction k with
 | zero => exact h i hj
 | succ k ih =>
   have h1 := ih (by omega); have h2 := h (i + 1 + k) hj; exact Int.lt_trans h1 h2
theorem allAw_asc {l : YLaw} (hl : YOk l) : ∀ {F : List FarmF}, (∀ f ∈ F, FarmOk l f) → (F.Pairwise fun f g => f.farm < g.farm) → (allAw l F).Pairwise awLt
 | [], _, _ => List.Pairwise.nil
 | f :: F, hF, hp => by
   rw [List.pairwise_cons] at hp
   show (farmAw l f ++ allAw l F).Pairwise awLt
   rw [List.pairwise_append]; have hf := hF f List.mem_cons_self; refine ⟨(farmAw_asc hl f).imp_of_mem fun ha hb h => .inr ⟨?_, h⟩, allAw_asc hl (fun g hg => hF g (List.mem_cons_of_mem _ hg)) hp.2, fun a ha b hb => .inl ?_⟩
   ·rw [(farmAw_fine hl hf ha).farm, (farmAw_fine hl hf hb).farm]
   ·obtain ⟨g, hg, hb⟩ := mem_allAw.1 hb
    rw [(farmAw_fine hl hf ha).farm, (farmAw_fine hl (hF g (List.mem_cons_of_mem _ hg)) hb).farm]; exact hp.1 g hg
theorem farmAw_le (l : YLaw) (f : FarmF) : (farmAw l f).length ≤ l.sch.length := by
 by_cases he : farmErr l f = 0
 ·rw [farmAw_len he]; exact awardsN_len l f _
 ·unfold farmAw; rw [if_pos he]; simp
theorem allAw_le (l : YLaw) : ∀ F : List FarmF, (allAw l F).length ≤ F.length * l.sch.length
 | [] => by simp [allAw]
 | f :: F => by
   have h1 := farmAw_le l f; have h2 := allAw_le l F
   show (farmAw l f ++ allAw l F).length ≤ _
   rw [lap, List.length_cons, Nat.add_mul]; omega
theorem all_good {l : YLaw} {F : List FarmF} (h : FOk l F) (h64 : (allAw l F).length ≤ 64) : En.Good l.env l.unit (cappeds (allAw l F)) := by
 refine ⟨h.law.env.1, h.law.env.2, h.law.unit.1, h.law.unit.2, by unfold cappeds; rw [List.length_map]; exact h64, fun x hx => ?_⟩
 obtain ⟨a, ha, rfl⟩ := List.mem_map.1 hx; obtain ⟨f, hf, ha⟩ := mem_allAw.1 ha; have k := farmAw_fine h.law (h.farm f hf) ha; have := k.c0; have := k.ct; have := k.ok.tr; have := k.ok.r1; exact ⟨by omega, by omega⟩
theorem assErr_cases {l : YLaw} {F : List FarmF} (h : FOk l F) : (assErr l F = 67 ∧ allErr l F = 67) ∨ (allErr l F = 0 ∧ 64 < (allAw l F).length ∧ assErr l F = 1) ∨ (allErr l F = 0 ∧ (allAw l F).length ≤ 64 ∧ assErr l F = 0) := by
 unfold assErr; rw [if_neg (by rw [h.chk]; decide)]
 rcases allErr_cases h F (fun _ h => h) with e | e
 ·rw [if_neg (by omega)]
  by_cases h64 : 64 < (allAw l F).length
  ·rw [if_pos h64]; exact .inr (.inl ⟨e, h64, rfl⟩)
  ·rw [if_neg h64]
   exact .inr (.inr ⟨e, by omega, En.err_of (all_good h (by omega))⟩)
 ·rw [if_pos (by omega)]; exact .inl ⟨e, e⟩
theorem total_snoc (A : List Awd) (a : Awd) : total (A ++ [a]) = total A + a.due := by unfold total; rw [List.map_append, List.map_singleton, Sh.sum_snoc]
theorem due_list {A : List Awd} {c : List Int} (h : c.length = A.length) : (setDue A c).map (·.due) = c := by
 apply List.ext_getElem
 ·rw [List.length_map, setDue_len, h]
 ·intro i h1 h2
  rw [List.getElem_map, setDue_at A c i _ (by omega)]
  simp [h2]
theorem setDue_cap {A : List Awd} {c : List Int} : cappeds (setDue A c) = cappeds A := by
 unfold cappeds
 apply List.ext_getElem
 ·rw [List.length_map, List.length_map, setDue_len]
 ·intro i h1 h2
  rw [List.length_map] at h1 h2; rw [List.getElem_map, List.getElem_map, setDue_at A c i h1 h2]
structure Falls (l : YLaw) (A : List Awd) : Prop where
 each : ∀ a ∈ A, a.det ≤ a.decl ∧ a.paid ≤ a.det ∧ a.timely ≤ a.rated ∧ a.capped ≤ a.timely ∧ a.due ≤ a.capped ∧ 0 ≤ a.due ∧ 0 ≤ a.paid ∧ 0 ≤ a.capped ∧ a.capped ≤ 68719476736
 asc : A.Pairwise awLt
 len : A.length ≤ 64
 sum : total A ≤ l.env
 sum0 : 0 ≤ total A
 near : En.usum l.unit (cappeds A) ≤ l.env / l.unit ∨ l.env - total A < l.unit
theorem falls {l : YLaw} {F : List FarmF} (h : FOk l F) (h0 : assErr l F = 0) : Falls l (assess l F) := by
 rcases assErr_cases h with ⟨e, _⟩ | ⟨_, _, e⟩ | ⟨e1, e2, _⟩
 ·omega
 ·omega
 have G := all_good h e2; have K := G.keeps; have eA : assess l F = setDue (allAw l F) (En.scale l.env l.unit (cappeds (allAw l F))) := by unfold assess; rw [if_neg (by omega)]
 have cl : (cappeds (allAw l F)).length = (allAw l F).length := by unfold cappeds; simp
 have hlen : (En.scale l.env l.unit (cappeds (allAw l F))).length = (allAw l F).length := by rw [K.len, cl]
 have tot : total (assess l F) = Sh.sum (En.scale l.env l.unit (cappeds (allAw l F))) := by unfold total; rw [eA, due_list hlen]
 have each : ∀ a ∈ assess l F, a.det ≤ a.decl ∧ a.paid ≤ a.det ∧ a.timely ≤ a.rated ∧ a.capped ≤ a.timely ∧ a.due ≤ a.capped ∧ 0 ≤ a.due ∧ 0 ≤ a.paid ∧ 0 ≤ a.capped ∧ a.capped ≤ 68719476736 := by
  rw [eA]; intro a ha; obtain ⟨i, hi, rfl⟩ := List.mem_iff_getElem.1 ha; have hi' : i < (allAw l F).length := by rw [setDue_len] at hi; exact hi
  rw [setDue_at _ _ i hi hi']; obtain ⟨f, hf, hm⟩ := mem_allAw.1 (List.getElem_mem hi'); have k := farmAw_fine h.law (h.farm f hf) hm; have b := K.at_ i (by rw [cl]; exact hi'); rw [cap_getD _ i hi'] at b; have := k.ok.tr; have := k.ok.r1; have := k.ct; exact ⟨k.ok.nd, k.ok.pn, k.ok.tr, k.ct, b.2.1, b.1, k.ok.p0, k.c0, by show (allAw l F)[i].capped ≤ _; omega⟩
 refine ⟨each, ?_, by rw [eA, setDue_len]; exact e2, by rw [tot]; exact K.sum, ?_, ?_⟩
 ·rw [eA, List.pairwise_iff_getElem]
  intro i j hi hj hij; have hi' : i < (allAw l F).length := by rw [setDue_len] at hi; exact hi
  have hj' : j < (allAw l F).length := by rw [setDue_len] at hj; exact hj
  rw [setDue_at _ _ i hi hi', setDue_at _ _ j hj hj']; exact List.pairwise_iff_getElem.1 (allAw_asc h.law h.farm (asc_pairwise h.asc)) i j hi' hj' hij
 ·unfold total
  refine Sh.sum_nonneg fun x hx => ?_
  obtain ⟨a, ha, rfl⟩ := List.mem_map.1 hx; exact (each a ha).2.2.2.2.2.1
 ·rw [tot, eA, setDue_cap]
  by_cases hq : l.env / l.unit < En.usum l.unit (cappeds (allAw l F))
  ·right
   apply K.near
   unfold En.scaled; rw [En.err_of G]
   simp [hq]
  ·left; omega
/-! ### the day of arrival -/
/-! ### the order of lines -/
/-! ### a farm more -/
theorem assess_at {l : YLaw} {F : List FarmF} (h0 : assErr l F = 0) : (assess l F).length = (allAw l F).length ∧ cappeds (assess l F) = cappeds (allAw l F) ∧ ∀ i (h : i < (assess l F).length) (h' : i < (allAw l F).length), (assess l F)[i] = { (allAw l F)[i] with due := (En.scale l.env l.unit (cappeds (allAw l F))).getD i 0 } := by
 have e : assess l F = setDue (allAw l F) (En.scale l.env l.unit (cappeds (allAw l F))) := by unfold assess; rw [if_neg (by omega)]
 refine ⟨by rw [e, setDue_len], by rw [e, setDue_cap], fun i h h' => ?_⟩
 have : ∀ X : List Awd, X = setDue (allAw l F) (En.scale l.env l.unit (cappeds (allAw l F))) → ∀ (hX : i < X.length), X[i] = { (allAw l F)[i] with due := (En.scale l.env l.unit (cappeds (allAw l F))).getD i 0 } := by
  rintro X rfl hX; exact setDue_at _ _ i hX h'
 exact this _ e h
def gRow (l : YLaw) (f : FarmF) (k i : Nat) : Nat → List Rsn
 | 0 => []
 | n + 1 => gRow l f k i n ++ rsLine l f n (if n < i then k + 1 else k)
def gAll (l : YLaw) (f : FarmF) (k i : Nat) : List Rsn := gRow l f k i f.lines.length
def gTail (l : YLaw) (f : FarmF) (k i : Nat) : Nat → List Rsn
 | 0 => []
 | n + 1 => gTail l f k i n ++ (if i ≤ n then rsLine l f n k else [])
theorem gRow_line {l : YLaw} {f : FarmF} {k i n : Nat} {y : Rsn} (h : y ∈ gRow l f k i n) : y.line < n := by
 induction n with
 | zero => cases h
 | succ n ih =>
   rcases List.mem_append.1 h with h | h
   ·have := ih h; omega
   ·unfold rsLine at h
    split at h
    ·obtain ⟨_, _, _, _, _, _, rfl⟩ := mem_rsnAt.1 h
     show (n : Int) < _; omega
    ·cases h
theorem rsLine_line {l : YLaw} {f : FarmF} {k n : Nat} {y : Rsn} (h : y ∈ rsLine l f n k) : y.line = n := by
 unfold rsLine at h
 split at h
 ·obtain ⟨_, _, _, _, _, _, rfl⟩ := mem_rsnAt.1 h; rfl
 ·cases h
theorem gTail_line {l : YLaw} {f : FarmF} {k i n : Nat} {y : Rsn} (h : y ∈ gTail l f k i n) : (i : Int) ≤ y.line := by
 induction n with
 | zero => cases h
 | succ n ih =>
   rcases List.mem_append.1 h with h | h
   ·exact ih h
   ·split at h
    ·have := rsLine_line h; omega
    ·cases h
theorem gRow_cut (l : YLaw) (f : FarmF) (k : Nat) {i n : Nat} (h : i ≤ n) : gRow l f k i n = gRow l f k i i ++ gTail l f k i n := by
 induction n with
 | zero =>
   obtain rfl : i = 0 := by omega
   rfl
 | succ n ih =>
   by_cases hi : i ≤ n
   ·show gRow l f k i n ++ _ = _ ++ (gTail l f k i n ++ _)
    rw [ih hi, if_neg (by omega), if_pos hi, List.append_assoc]
   ·obtain rfl : i = n + 1 := by omega
    have e : ∀ m, m ≤ n + 1 → gTail l f k (n + 1) m = [] := by
     intro m
     induction m with
     | zero => intro _; rfl
     | succ m ih => intro hm; show gTail l f k (n + 1) m ++ _ = []; rw [ih (by omega), if_neg (by omega)]; rfl
    rw [e _ mle, List.append_nil]
theorem gRow_ahead (l : YLaw) (f : FarmF) (k : Nat) {i j : Nat} : ∀ {n : Nat}, n ≤ i → n ≤ j → gRow l f k i n = gRow l f k j n
 | 0, _, _ => rfl
 | n + 1, h1, h2 => by
   show gRow l f k i n ++ _ = gRow l f k j n ++ _
   rw [gRow_ahead l f k (i := i) (j := j) (n := n) (by omega) (by omega), if_pos (by omega), if_pos (by omega)]
theorem gTail_succ (l : YLaw) (f : FarmF) (k : Nat) {i n : Nat} (h : i < n) : gTail l f k i n = rsLine l f i k ++ gTail l f k (i + 1) n := by
 induction n with
 | zero => omega
 | succ n ih =>
   by_cases hi : i < n
   ·show gTail l f k i n ++ _ = _ ++ (gTail l f k (i + 1) n ++ _)
    rw [ih hi, if_pos (by omega), if_pos (by omega), List.append_assoc]
   ·obtain rfl : i = n := by omega
    have e : ∀ (c m : Nat), m ≤ c → gTail l f k c m = [] := by
     intro c m
     induction m with
     | zero => intro _; rfl
     | succ m ih => intro hm; show gTail l f k c m ++ _ = []; rw [ih (by omega), if_neg (by omega)]; rfl
    show gTail l f k i i ++ (if i ≤ i then rsLine l f i k else []) = _ ++ (gTail l f k (i + 1) i ++ (if i + 1 ≤ i then _ else []))
    rw [e i i mle, e (i + 1) i (by omega), if_pos mle, if_neg (by omega)]
    simp
theorem rsLine_succ {l : YLaw} {f : FarmF} {k i : Nat} {x : LineF} {s : Sch} (hx : f.lines[i]? = some x) (hs : l.sch[k]? = some s) :
  rsLine l f i (k + 1) = rsLine l f i k ++ (if namesB x s = true ∧ (det (factOf x k) l.width).2 ≠ 0 then [⟨i, s.num, (det (factOf x k) l.width).2⟩] else []) := by
 unfold rsLine; rw [hx]
 show rsnAt l x i k ++ rsStep l x i k = _
 unfold rsStep; rw [hs]
theorem gAll_same {l : YLaw} {f : FarmF} {k i : Nat} {x : LineF} {s : Sch} (hi : i < f.lines.length) (hx : f.lines[i]? = some x) (hs : l.sch[k]? = some s) (h : ¬ (namesB x s = true ∧ (det (factOf x k) l.width).2 ≠ 0)) :
  gAll l f k (i + 1) = gAll l f k i := by
 unfold gAll; rw [gRow_cut l f k (show i + 1 ≤ f.lines.length from hi), gRow_cut l f k (show i ≤ f.lines.length by omega), gTail_succ l f k hi]
 show (gRow l f k (i + 1) i ++ rsLine l f i (if i < i + 1 then k + 1 else k)) ++ _ = _
 rw [if_pos (by omega), rsLine_succ hx hs, if_neg h, List.append_nil, gRow_ahead l f k (show i ≤ i + 1 by omega) (Nat.le_refl i), List.append_assoc]
theorem gAll_more {l : YLaw} {f : FarmF} {k i : Nat} {x : LineF} {s : Sch} (hi : i < f.lines.length) (hx : f.lines[i]? = some x) (hs : l.sch[k]? = some s) (h : namesB x s = true ∧ (det (factOf x k) l.width).2 ≠ 0) :
  ∃ A D : List Rsn, gAll l f k i = A ++ D ∧ gAll l f k (i + 1) = A ++ ⟨i, s.num, (det (factOf x k) l.width).2⟩ :: D ∧ (∀ y ∈ A, y.line ≤ i) ∧ (∀ y ∈ D, (i : Int) < y.line) := by
 refine ⟨gRow l f k i i ++ rsLine l f i k, gTail l f k (i + 1) f.lines.length, ?_, ?_, fun y hy => ?_, fun y hy => ?_⟩
 ·unfold gAll
  rw [gRow_cut l f k (show i ≤ f.lines.length by omega), gTail_succ l f k hi, List.append_assoc]
 ·unfold gAll
  rw [gRow_cut l f k (show i + 1 ≤ f.lines.length from hi)]
  show (gRow l f k (i + 1) i ++ rsLine l f i (if i < i + 1 then k + 1 else k)) ++ _ = _
  rw [if_pos (by omega), rsLine_succ hx hs, if_pos h, gRow_ahead l f k (show i ≤ i + 1 by omega) (Nat.le_refl i)]
  simp
 ·rcases List.mem_append.1 hy with h | h
  ·have := gRow_line h; omega
  ·rw [rsLine_line h]; exact Int.le_refl _
 ·have := gTail_line hy; omega
theorem gAll_end (l : YLaw) (f : FarmF) (k : Nat) : gAll l f k f.lines.length = gAll l f (k + 1) 0 := by
 unfold gAll; have e : ∀ n, n ≤ f.lines.length → gRow l f k f.lines.length n = gRow l f (k + 1) 0 n := by
  intro n
  induction n with
  | zero => intro _; rfl
  | succ n ih =>
    intro h
    show gRow l f k f.lines.length n ++ _ = gRow l f (k + 1) 0 n ++ _
    rw [ih (by omega), if_pos (by omega), if_neg (by omega)]
 exact e _ mle
theorem gAll_zero (l : YLaw) (f : FarmF) : gAll l f 0 0 = [] := by
 unfold gAll; have e : ∀ n, gRow l f 0 0 n = [] := by
  intro n
  induction n with
  | zero => rfl
  | succ n ih =>
    show gRow l f 0 0 n ++ rsLine l f n (if n < 0 then 0 + 1 else 0) = []
    rw [ih, if_neg (by omega)]; unfold rsLine rsnAt
    split <;> rfl
 exact e _
theorem gAll_done (l : YLaw) (f : FarmF) : gAll l f l.sch.length 0 = reasons0 l f := by
 unfold gAll reasons0; have e : ∀ n, gRow l f l.sch.length 0 n = reasonsN l f n := by
  intro n
  induction n with
  | zero => rfl
  | succ n ih =>
    show gRow l f l.sch.length 0 n ++ rsLine l f n (if n < 0 then _ else l.sch.length) = _
    rw [ih, if_neg (by omega)]
    rfl
 exact e _
theorem rsnAt_len (l : YLaw) (x : LineF) (i k : Nat) : (rsnAt l x i k).length ≤ k := by
 induction k with
 | zero => simp [rsnAt]
 | succ k ih =>
   unfold rsnAt rsStep; rw [lap]
   split
   ·split
    ·simp; omega
    ·simp; omega
   ·simp; omega
theorem gAll_len {l : YLaw} {f : FarmF} {k i : Nat} (hk : k ≤ 16) (hf : f.lines.length ≤ 20) : (gAll l f k i).length ≤ 340 := by
 unfold gAll; have e : ∀ n, (gRow l f k i n).length ≤ n * 17 := by
  intro n
  induction n with
  | zero => simp [gRow]
  | succ n ih =>
    show (gRow l f k i n ++ rsLine l f n (if n < i then k + 1 else k)).length ≤ _
    rw [lap]; have : (rsLine l f n (if n < i then k + 1 else k)).length ≤ 17 := by
     unfold rsLine
     split
     ·exact Nat.le_trans (rsnAt_len _ _ _ _) (by split <;> omega)
     ·simp
    omega
 have := e f.lines.length; omega
/-! ### sums, a line at a time -/
theorem sumD_take {s : Sch} {K : List LineF} {k : Nat} (hk : k < K.length) : sumD s (K.take (k + 1)) = sumD s (K.take k) + if namesB K[k] s then K[k].decl else 0 := by
 unfold sumD; rw [tsg hk, List.map_append, List.map_singleton, Sh.sum_snoc]
theorem sumN_take {l : YLaw} {j : Nat} {s : Sch} {K : List LineF} {k : Nat} (hk : k < K.length) : sumN l j s (K.take (k + 1)) = sumN l j s (K.take k) + if namesB K[k] s then (det (factOf K[k] j) l.width).1 else 0 := by
 unfold sumN; rw [tsg hk, List.map_append, List.map_singleton, Sh.sum_snoc]
theorem someN_take {s : Sch} {K : List LineF} {k : Nat} (hk : k < K.length) : someN s (K.take (k + 1)) = (someN s (K.take k) || namesB K[k] s) := by
 unfold someN; rw [tsg hk, List.any_append]
 simp
theorem declSum_mono {K : List LineF} (h : ∀ x ∈ K, 0 ≤ x.decl) (k : Nat) : declSum (K.take k) ≤ declSum K := by
 have e : declSum K = declSum (K.take k) + declSum (K.drop k) := by
  unfold declSum; rw [← Sh.sum_append, ← List.map_append, List.take_append_drop]
 have : 0 ≤ declSum (K.drop k) := Sh.sum_nonneg fun y hy => by
  obtain ⟨x, hx, rfl⟩ := List.mem_map.1 hy; exact h x (List.mem_of_mem_drop hx)
 omega
theorem sums_bd {l : YLaw} {f : FarmF} (hl : YOk l) (hf : FarmOk l f) {j : Nat} {s : Sch} (hs : l.sch[j]? = some s) (k : Nat) :
  0 ≤ sumN l j s (f.lines.take k) ∧ sumN l j s (f.lines.take k) ≤ sumD s (f.lines.take k) ∧ sumD s (f.lines.take k) ≤ 268435456 := by
 have hx : ∀ x ∈ f.lines.take k, LineOk l x := fun x h => hf.line x (List.mem_of_mem_take h)
 have h1 := sumN_bd hl hx hs; have h2 := sumD_bd (s := s) (K := f.lines.take k) fun x h => (hx x h).d0
 have h3 := declSum_mono (K := f.lines) (fun x h => (hf.line x h).d0) k; have h4 := hf.sum; omega
end Go.Proofs.YtmlfcpglhipjgaaGreat.As
namespace Go.Proofs.YtmlfcpglhipjgaaGreat
open Go.RowKit
theorem headB_false {l : List UInt8} {k : Nat} (h : Wo.headB (l.take k) = false) : Wo.nameB l = false := by
 have : Wo.headB l = false := by
  cases e : Wo.headB l with
  | false => rfl
  | true =>
    rw [← List.take_append_drop k l] at e; rw [Wo.headB_prefix e] at h
    cases h
 unfold Wo.nameB; rw [this]; rfl
theorem ret_b {a b : Bool} (h : a = b) : Ending.returned (.bool a) = .returned (.bool b) := by rw [h]
theorem byte_kinds (c : UInt8) : ((c.toNat : Int) < 48 ∧ Wo.letB c = false ∧ Wo.digB c = false) ∨ (48 ≤ (c.toNat : Int) ∧ (c.toNat : Int) ≤ 57 ∧ Wo.letB c = false ∧ Wo.digB c = true) ∨ (58 ≤ (c.toNat : Int) ∧ (c.toNat : Int) < 97 ∧ Wo.letB c = false ∧ Wo.digB c = false) ∨ (97 ≤ (c.toNat : Int) ∧ (c.toNat : Int) ≤ 122 ∧ Wo.letB c = true ∧ Wo.digB c = false) ∨ (122 < (c.toNat : Int) ∧ Wo.letB c = false ∧ Wo.digB c = false) := by
 simp only [Wo.letB, Wo.digB, Bool.and_eq_true, Bool.and_eq_false_iff, decide_eq_true_eq, decide_eq_false_iff_not]; omega
def NameGive (l : List UInt8) (w : World) (e : Ending) (w' : World) : Prop := e = .returned (.bool (Wo.nameB l)) ∧ w = w'
theorem name_any (s : ByteArray) (w : World) (hs : s.size ≤ 9223372036854775807) :
  Calls Tryz.prog 131 #[.string s] w (NameGive s.data.toList w) := by
 go_enter Tryz.func131, Tryz.ntmps131
 go_wp2
 go_loop [8] (fun i => ∃ k : Nat, k ≤ s.size ∧ i = I O k ∧ Wo.headB (s.data.toList.take k) = true) (fun i => s.size - (intOf i).toNat)
 case atStart => exact ⟨0, Nat.zero_le _, rfl, rfl⟩
 case round =>
  obtain ⟨k, hk, rfl, hh⟩ := hrel; have HH := mh hh; clear hh; have hk0 : (0 : Int) ≤ (k : Int) := inn _
  by_cases hlt : k < s.size
  ·have HS := mh (show Wo.headB (s.data.toList.take (k + 1)) = (Wo.letB s[k] || (decide (0 < k) && Wo.digB s[k])) by
    rw [Wo.take_snoc_bytes s k hlt, Wo.headB_snoc, HH.out, Bool.true_and]; have : (!(s.data.toList.take k).isEmpty) = decide (0 < k) := by
     rw [Bool.eq_iff_iff]; simp only [Bool.not_eq_true', List.isEmpty_eq_false_iff, ne_eq, List.take_eq_nil_iff, decide_eq_true_eq, not_or]; have : s.data.toList ≠ [] := fun e => by have h9 := congrArg List.length e; rw [Array.length_toList] at h9; have : s.size = 0 := h9; omega
     constructor
     ·intro h; omega
     ·intro h; exact ⟨by omega, this⟩
    rw [this])
   rcases Nat.eq_zero_or_pos k with h0 | hpos
   ·have e0 : ((k : Int) == 0) = true := by rw [h0]; rfl
    have HZ := mh h0; clear h0
    rcases byte_kinds s[k] with ⟨c1, l1, d1⟩ | ⟨c1, c2, l1, d1⟩ | ⟨c1, c2, l1, d1⟩ | ⟨c1, c2, l1, d1⟩ | ⟨c1, l1, d1⟩
    all_goals
     rw [l1, d1, show decide (0 < k) = false by rw [HZ.out]; rfl] at HS; clear l1 d1
     first
      | have b2 : decide ((s[k].toNat : Int) ≤ 57) = true := dqt (by omega)
      | have b2 : decide ((s[k].toNat : Int) ≤ 57) = false := dqf (by omega)
     first
      | have b3 : decide ((s[k].toNat : Int) ≤ 122) = true := dqt (by omega)
      | have b3 : decide ((s[k].toNat : Int) ≤ 122) = false := dqf (by omega)
     go_wp2
     first
      | (go_round
         case rel => exact ⟨k + 1, by omega, by go_num, HS.out⟩
         case measure => simp [intOf]; omega)
      | (go_ret
         exact ⟨ret_b (headB_false HS.out).symm, rfl⟩)
   ·have e0 : ((k : Int) == 0) = false := by simp; omega
    have ez : decide (0 < k) = true := by simpa using hpos
    rcases byte_kinds s[k] with ⟨c1, l1, d1⟩ | ⟨c1, c2, l1, d1⟩ | ⟨c1, c2, l1, d1⟩ | ⟨c1, c2, l1, d1⟩ | ⟨c1, l1, d1⟩
    all_goals
     rw [l1, d1, ez] at HS; clear l1 d1 ez
     first
      | have b2 : decide ((s[k].toNat : Int) ≤ 57) = true := dqt (by omega)
      | have b2 : decide ((s[k].toNat : Int) ≤ 57) = false := dqf (by omega)
     first
      | have b3 : decide ((s[k].toNat : Int) ≤ 122) = true := dqt (by omega)
      | have b3 : decide ((s[k].toNat : Int) ≤ 122) = false := dqf (by omega)
     go_wp2
     first
      | (go_round
         case rel => exact ⟨k + 1, by omega, by go_num, HS.out⟩
         case measure => simp [intOf]; omega)
      | (go_ret
         exact ⟨ret_b (headB_false HS.out).symm, rfl⟩)
  ·obtain rfl : k = s.size := by omega
   have HN := mh (show Wo.nameB s.data.toList = (decide (1 ≤ s.size) && decide (s.size ≤ 12)) by
    unfold Wo.nameB; have h := HH.out; rw [List.take_of_length_le (by rw [Array.length_toList]; exact Nat.le_refl _)] at h
    rw [h, Bool.true_and, Array.length_toList]; rfl)
   by_cases h1 : (1 : Int) ≤ (s.size : Int)
   ·by_cases h2 : (s.size : Int) ≤ 12
    all_goals
     go_wp2
     go_ret
     exact ⟨ret_b (by rw [HN.out]; simp <;> omega), rfl⟩
   ·go_wp2
    go_ret
    exact ⟨ret_b (by rw [HN.out]; simp <;> omega), rfl⟩
end Go.Proofs.YtmlfcpglhipjgaaGreat
