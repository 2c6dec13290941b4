/-
  THE WALK over envelope.Scale.
-/
import Derived.Test.YtlmikbjnibiajaaEv
namespace Go.Proofs.Ytlmikbjnibiajaa
open Go.RowKit

set_option maxRecDepth 100000 in
set_option maxHeartbeats 4000000 in
theorem scale_bad (e u : Int) (p : Option Addr) (l : List Int) (cap : Nat) (w : World) (h : Ints w p l) (hg : En.err e u l ≠ 0) :
    Calls Try.prog 35 #[.int .i64 e, .int .i64 u, .slice p l.length cap] w (GivesInts w (En.scale e u l) (En.err e u l)) := by
  have hs : En.scale e u l = [] := by unfold En.scale; rw [if_neg hg]
  rw [hs]
  have hc := Lib.hid (count_bad e u p l cap w h hg)
  clear h hs
  go_enter Try.func35, Try.ntmps35
  go_wp2_with (first | (go_at_call 66; refine (hc.out).mono ?_; rintro en w1 ⟨rfl, hb1⟩))
  go_ret2
  exact ⟨none, 0, rfl, Ints.nil _ _, hb1.alloc hb1.size _⟩

theorem shList_bd {t : Int} {zs : List Int} (he : shErr t zs = 0) : (∀ x ∈ shList t zs, 0 ≤ x ∧ x ≤ t) ∧ (shList t zs).length = zs.length := by
  have h1 : ¬ 64 < zs.length := fun h => by unfold shErr at he; rw [if_pos h] at he; omega
  have h2 : ¬ (Sh.limited t = false ∨ (zs.any fun x => !Sh.limited x) = true) := fun h => by unfold shErr at he; rw [if_neg h1, if_pos h] at he; omega
  have ht : Sh.limited t = true := by simpa using fun h => h2 (.inl h)
  have hz : (zs.any fun x => !Sh.limited x) = false := by simpa using fun h => h2 (.inr h)
  have ht' := Sh.limited_iff.1 ht
  unfold shList
  rw [if_neg (by rw [he]; simp)]
  split
  · refine ⟨fun x hx => ?_, by simp⟩
    rw [List.eq_of_mem_replicate hx]; omega
  · rename_i hs
    have hR : Sh.Right t zs := any_odd ht hz hs
    have h0 : ∀ x ∈ Sh.shares t zs, 0 ≤ x := fun x hx => by
      obtain ⟨i, _, rfl⟩ := List.mem_map.1 hx
      exact (hR.share_bd i).1
    refine ⟨fun x hx => ⟨h0 x hx, ?_⟩, by unfold Sh.shares; simp⟩
    rw [← hR.total]
    exact Sh.le_sum h0 hx

theorem units_ok {e u : Int} {l : List Int} (h : En.Good e u l) : shErr (e / u) (En.units u l) = 0 := by
  have h1 : Sh.limited (e / u) = true := Sh.limited_iff.2 ⟨Int.ediv_nonneg h.e0 (by have := h.u0; omega), by have := Int.ediv_le_self u h.e0; have := h.e1; omega⟩
  have h2 : ((En.units u l).any fun x => !Sh.limited x) = false := by
    rw [List.any_eq_false]
    intro x hx
    have := h.unit x hx
    rw [Sh.limited_iff.2 ⟨this.1, by omega⟩]
    simp
  unfold shErr
  rw [if_neg (by rw [En.units_len]; have := h.len; omega), if_neg (by rw [h1, h2]; simp)]

theorem shares_len (t : Int) (p : Option Addr) (zs : List Int) (n cap : Nat) (w : World) (h : Ints w p zs) (hn : zs.length = n) (he : shErr t zs = 0) :
    Calls Try.prog 19 #[.int .i64 t, .slice p n cap] w (GivesInts w (shList t zs) 0) := by subst hn; rw [← he]; exact shares_any t p zs cap w h

set_option maxRecDepth 100000 in
set_option maxHeartbeats 4000000 in
theorem scale_good (e u : Int) (p : Option Addr) (l : List Int) (cap : Nat) (w : World) (h : Ints w p l) (hg : En.err e u l = 0) :
    Calls Try.prog 35 #[.int .i64 e, .int .i64 u, .slice p l.length cap] w (GivesInts w (En.scale e u l) 0) := by
  have hG := Lib.hid (En.good_of hg)
  have hc := Lib.hid (count_good e u p l cap w h hG.out)
  have HL := Lib.hid (@En.units_len u l)
  have HE := Lib.hid (units_ok hG.out)
  clear h
  by_cases hq : e / u < En.usum u l
  · have hd : decide (e / u < En.usum u l) = true := decide_eq_true hq
    go_enter Try.func35, Try.ntmps35
    go_wp2_with (first | (go_at_call 66; refine (hc.out).mono ?_; rintro en w1 ⟨q, c, rfl, hI, hb1⟩) | (go_at_call 67; refine (scaledu_any _ _ _ _).mono ?_; rintro en w2 ⟨rfl, hb2⟩; have hI2 := ((hI.below ((Below.refl _ _).alloc (Nat.le_refl _) (Obj.cells #[.int .i64 (e / u), .slice q l.length c, .int .i64 (En.usum u l)] 87))).below hb2); have k0 := (hb2.cell (p := ⟨w1.heap.size, 0, none⟩) (by simp)).trans (show _ = some (Value.int .i64 (e / u)) by go_simp); have k1 := (hb2.cell (p := ⟨w1.heap.size, 1, none⟩) (by simp)).trans (show _ = some (Value.slice q l.length c) by go_simp)) | (go_at_call 19; refine (shares_len _ _ _ _ _ _ hI2 HL.out HE.out).mono ?_; rintro en w3 ⟨p3, c3, rfl, hI3, hb3⟩))
    have hsc : En.scale e u l = (shList (e / u) (En.units u l)).map fun x => x * u := by unfold En.scale En.paid; rw [if_pos hg, if_pos hq]
    have hzb : ∀ x ∈ shList (e / u) (En.units u l), 0 ≤ x ∧ x ≤ 68719476736 := fun x hx => by
      have h := (shList_bd HE.out).1 x hx
      have := Int.ediv_le_self u hG.out.e0
      have := hG.out.e1
      omega
    have hzn : (shList (e / u) (En.units u l)).length ≤ 64 := by rw [(shList_bd HE.out).2, En.units_len]; exact hG.out.len
    have hbel : Below w.heap.size w w3 := bnext (bnext (hb1.alloc hb1.size _) (by have := hb1.size; simp; omega) hb2) (by have := hb1.size; have := hb2.size; simp at this; omega) hb3
    have hIz := hI3
    have hsc := Lib.hid hsc
    clear hI2 hI hI3 hb1 hb2 hb3 k0 k1 HL HE hc hd hq hg
    generalize shList (e / u) (En.units u l) = zs at *
    obtain ⟨wz, rfl⟩ : ∃ wz : World, wz = w3 := ⟨_, rfl⟩
    obtain ⟨i0, hi, hz0, hz1, hz2⟩ := info_parts info_int
    have HI := Lib.hid (And.intro hi (And.intro hz0 (And.intro hz1 hz2)))
    clear hi hz0 hz1 hz2
    have u1 := hG.out.u1
    have u0 := hG.out.u0
    have BEL := Lib.hid hbel
    have HZ := Lib.hid hIz
    have ZB := Lib.hid hzb
    have hzl := hIz.len
    clear hbel hIz hzb
    go_loopw [41, 11] (fun i v wr => ∃ k : Nat, k ≤ zs.length ∧ i = .int .i64 k ∧ Own wr 3 wz.heap.size v ((zs.take k).map fun x => x * u) ∧ Below wz.heap.size wz wr) (fun i _ _ => zs.length - (intOf i).toNat)
    case atStart => exact ⟨0, Nat.zero_le _, rfl, Own.nil _ _ _, Below.refl _ _⟩
    case round =>
      obtain ⟨k, hk, rfl, hown, hbw⟩ := hrel
      have HO := Lib.hid hown
      have HB := Lib.hid hbw
      have hsz := hbw.size
      by_cases hlt : k < zs.length
      · obtain ⟨b, off, x, rfl, hbl, hcell0, hx⟩ := HZ.out.get hlt
        have hcell := (hbw.cell (p := ⟨b, off + k, none⟩) hbl).trans hcell0
        have hst := Lib.hid (En.take_snoc hlt)
        have hxb : 0 ≤ x ∧ x ≤ 68719476736 := by
          rw [← hx.out, List.getD_eq_getElem?_getD, List.getElem?_eq_getElem hlt]
          exact ZB.out _ (List.getElem_mem hlt)
        have hm0 : 0 ≤ x * u := Int.mul_nonneg hxb.1 (by omega)
        have hm1 : x * u ≤ 68719476736 * 100000 := Int.mul_le_mul hxb.2 u1 (by omega) (by omega)
        have hmw : IntKind.i64.wrap (x * u) = x * u := by
          generalize x * u = y at hm0 hm1 ⊢
          rw [IntKind.wrap_i64]; omega
        clear hown hbw hcell0
        go_wp2_with (first | (at_builtin; (refine Own.append HI.out.1 HI.out.2.1 HI.out.2.2.1 HI.out.2.2.2 Try.underlying28 rfl (.tmp 45) (.tmp 49) rfl wz.heap.size _ _ _ HO.out rfl rfl (by omega) (by rw [List.length_map, List.length_take]; omega) ?_); intro v1 w5 hown1 hb5))
        have HO5 := Lib.hid hown1
        have HB5 := Lib.hid (HB.out.trans hb5)
        clear hown1 hb5
        go_roundw
        case rel => exact ⟨k + 1, by omega, by go_num, by rw [hst.out, hx.out]; simpa using HO5.out, HB5.out⟩
        case measure => simp [intOf]; omega
      · obtain rfl : k = zs.length := by omega
        rw [List.take_length] at HO
        obtain ⟨p4, c4, rfl, hI4⟩ := HO.out.ints
        have HI4 := Lib.hid hI4
        clear hI4 hown hbw hlt hk
        go_wp2
        go_ret2
        exact ⟨p4, c4, by rw [hsc.out]; simp, by rw [hsc.out]; exact HI4.out, bnext BEL.out BEL.out.size HB.out⟩
  · have hd : decide (e / u < En.usum u l) = false := decide_eq_false hq
    go_enter Try.func35, Try.ntmps35
    go_wp2_with (first | (go_at_call 66; refine (hc.out).mono ?_; rintro en w1 ⟨q, c, rfl, hI, hb1⟩) | (go_at_call 67; refine (scaledu_any _ _ _ _).mono ?_; rintro en w2 ⟨rfl, hb2⟩; have hI2 := ((hI.below ((Below.refl _ _).alloc (Nat.le_refl _) (Obj.cells #[.int .i64 (e / u), .slice q l.length c, .int .i64 (En.usum u l)] 87))).below hb2); have k0 := (hb2.cell (p := ⟨w1.heap.size, 0, none⟩) (by simp)).trans (show _ = some (Value.int .i64 (e / u)) by go_simp); have k1 := (hb2.cell (p := ⟨w1.heap.size, 1, none⟩) (by simp)).trans (show _ = some (Value.slice q l.length c) by go_simp)))
    rw [← HL.out]
    have hsc := Lib.hid (show En.scale e u l = (En.units u l).map fun x => x * u by unfold En.scale En.paid; rw [if_pos hg, if_neg (by omega)])
    have hzb : ∀ x ∈ En.units u l, 0 ≤ x ∧ x ≤ 68719476736 := hG.out.unit
    have hzn : (En.units u l).length ≤ 64 := by rw [En.units_len]; exact hG.out.len
    have hbel : Below w.heap.size w w2 := bnext (hb1.alloc hb1.size _) (by have := hb1.size; simp; omega) hb2
    have hIz := hI2
    clear hI2 hI hb1 hb2 k0 k1 HL HE hc hd hq hg
    generalize En.units u l = zs at *
    obtain ⟨wz, rfl⟩ : ∃ wz : World, wz = w2 := ⟨_, rfl⟩
    obtain ⟨i0, hi, hz0, hz1, hz2⟩ := info_parts info_int
    have HI := Lib.hid (And.intro hi (And.intro hz0 (And.intro hz1 hz2)))
    clear hi hz0 hz1 hz2
    have u1 := hG.out.u1
    have u0 := hG.out.u0
    have BEL := Lib.hid hbel
    have HZ := Lib.hid hIz
    have ZB := Lib.hid hzb
    have hzl := hIz.len
    clear hbel hIz hzb
    go_loopw [41, 11] (fun i v wr => ∃ k : Nat, k ≤ zs.length ∧ i = .int .i64 k ∧ Own wr 3 wz.heap.size v ((zs.take k).map fun x => x * u) ∧ Below wz.heap.size wz wr) (fun i _ _ => zs.length - (intOf i).toNat)
    case atStart => exact ⟨0, Nat.zero_le _, rfl, Own.nil _ _ _, Below.refl _ _⟩
    case round =>
      obtain ⟨k, hk, rfl, hown, hbw⟩ := hrel
      have HO := Lib.hid hown
      have HB := Lib.hid hbw
      have hsz := hbw.size
      by_cases hlt : k < zs.length
      · obtain ⟨b, off, x, rfl, hbl, hcell0, hx⟩ := HZ.out.get hlt
        have hcell := (hbw.cell (p := ⟨b, off + k, none⟩) hbl).trans hcell0
        have hst := Lib.hid (En.take_snoc hlt)
        have hxb : 0 ≤ x ∧ x ≤ 68719476736 := by
          rw [← hx.out, List.getD_eq_getElem?_getD, List.getElem?_eq_getElem hlt]
          exact ZB.out _ (List.getElem_mem hlt)
        have hm0 : 0 ≤ x * u := Int.mul_nonneg hxb.1 (by omega)
        have hm1 : x * u ≤ 68719476736 * 100000 := Int.mul_le_mul hxb.2 u1 (by omega) (by omega)
        have hmw : IntKind.i64.wrap (x * u) = x * u := by
          generalize x * u = y at hm0 hm1 ⊢
          rw [IntKind.wrap_i64]; omega
        clear hown hbw hcell0
        go_wp2_with (first | (at_builtin; (refine Own.append HI.out.1 HI.out.2.1 HI.out.2.2.1 HI.out.2.2.2 Try.underlying28 rfl (.tmp 45) (.tmp 49) rfl wz.heap.size _ _ _ HO.out rfl rfl (by omega) (by rw [List.length_map, List.length_take]; omega) ?_); intro v1 w5 hown1 hb5))
        have HO5 := Lib.hid hown1
        have HB5 := Lib.hid (HB.out.trans hb5)
        clear hown1 hb5
        go_roundw
        case rel => exact ⟨k + 1, by omega, by go_num, by rw [hst.out, hx.out]; simpa using HO5.out, HB5.out⟩
        case measure => simp [intOf]; omega
      · obtain rfl : k = zs.length := by omega
        rw [List.take_length] at HO
        obtain ⟨p4, c4, rfl, hI4⟩ := HO.out.ints
        have HI4 := Lib.hid hI4
        clear hI4 hown hbw hlt hk
        go_wp2
        go_ret2
        exact ⟨p4, c4, by rw [hsc.out]; simp, by rw [hsc.out]; exact HI4.out, bnext BEL.out BEL.out.size HB.out⟩

end Go.Proofs.Ytlmikbjnibiajaa
