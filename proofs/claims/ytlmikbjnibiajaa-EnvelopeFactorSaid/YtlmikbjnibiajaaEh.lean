/-
  THE WALKS over ref33.Scale and ref24.Ints; the examples of chapter 33.
-/
import Derived.Test.YtlmikbjnibiajaaEg
import Derived.Test.YtlmikbjnibiajaaRs
namespace Go.Proofs.Ytlmikbjnibiajaa
open Go.RowKit

set_option maxRecDepth 100000 in
set_option maxHeartbeats 4000000 in
theorem refscale_bad (e u : Int) (p : Option Addr) (l : List Int) (cap : Nat) (w : World) (h : Ints w p l) (hg : En.err e u l ≠ 0) :
    Calls Try.prog 36 #[.int .i64 e, .int .i64 u, .slice p l.length cap] w (GivesInts w (En.scale e u l) (En.err e u l)) := by
  have hs : En.scale e u l = [] := by unfold En.scale; rw [if_neg hg]
  rw [hs]
  have hc := Lib.hid (refunits_bad e u p l cap w h hg)
  clear h hs
  go_enter Try.func36, Try.ntmps36
  go_wp2_with (first | (go_at_call 68; refine (hc.out).mono ?_; rintro en w1 ⟨rfl, hb1⟩))
  go_ret2
  exact ⟨none, 0, rfl, Ints.nil _ _, hb1⟩

theorem refshares_len (t : Int) (p : Option Addr) (zs : List Int) (n cap : Nat) (w : World) (h : Ints w p zs) (hn : zs.length = n) (he : shErr t zs = 0) :
    Calls Try.prog 31 #[.int .i64 t, .slice p n cap] w (GivesInts w (shList t zs) 0) := by subst hn; rw [← he]; exact refshares_any t p zs cap w h

set_option maxRecDepth 100000 in
set_option maxHeartbeats 4000000 in
theorem refscale_good (e u : Int) (p : Option Addr) (l : List Int) (cap : Nat) (w : World) (h : Ints w p l) (hg : En.err e u l = 0) :
    Calls Try.prog 36 #[.int .i64 e, .int .i64 u, .slice p l.length cap] w (GivesInts w (En.scale e u l) 0) := by
  have hG := Lib.hid (En.good_of hg)
  have hc := Lib.hid (refunits_good e u p l cap w h hG.out)
  have HL := Lib.hid (@En.units_len u l)
  have HE := Lib.hid (units_ok hG.out)
  have hu0 : ¬ u = 0 := by have := hG.out.u0; omega
  have hdq : IntKind.i64.wrap (e.tdiv u) = e / u := by
    have q0 : 0 ≤ e / u := Int.ediv_nonneg hG.out.e0 (by have := hG.out.u0; omega)
    have q1 : e / u ≤ e := Int.ediv_le_self u hG.out.e0
    have := hG.out.e1
    rw [Int.tdiv_eq_ediv_of_nonneg hG.out.e0]; generalize e / u = y at q0 q1 ⊢; rw [IntKind.wrap_i64]; omega
  clear h
  by_cases hq : e / u < En.usum u l
  · go_enter Try.func36, Try.ntmps36
    go_wp2_with (first | (go_at_call 68; refine (hc.out).mono ?_; rintro en w1 ⟨q, c, rfl, hI, hb1⟩) | (go_at_call 31; refine (refshares_len _ _ _ _ _ _ hI HL.out HE.out).mono ?_; rintro en w3 ⟨p3, c3, rfl, hI3, hb3⟩))
    have hsc : En.scale e u l = (shList (e / u) (En.units u l)).map fun x => x * u := by unfold En.scale En.paid; rw [if_pos hg, if_pos hq]
    have hzb : ∀ x ∈ shList (e / u) (En.units u l), 0 ≤ x ∧ x ≤ 68719476736 := fun x hx => by
      have h := (shList_bd HE.out).1 x hx
      have := Int.ediv_le_self u hG.out.e0
      have := hG.out.e1
      omega
    have hzn : (shList (e / u) (En.units u l)).length ≤ 64 := by rw [(shList_bd HE.out).2, En.units_len]; exact hG.out.len
    have hbel : Below w.heap.size w w3 := bnext hb1 hb1.size hb3
    have hIz := hI3
    have hsc := Lib.hid hsc
    clear hI hI3 hb1 hb3 HL HE hc hq hg hdq
    generalize shList (e / u) (En.units u l) = zs at *
    obtain ⟨wz, rfl⟩ : ∃ wz : World, wz = w3 := ⟨_, rfl⟩
    obtain ⟨i0, hi, hz0, hz1, hz2⟩ := info_parts info_int
    have HI := Lib.hid (And.intro hi (And.intro hz0 (And.intro hz1 hz2)))
    clear hi hz0 hz1 hz2
    have u1 := hG.out.u1
    have u0 := hG.out.u0
    have BEL := Lib.hid hbel
    have HZ := Lib.hid hIz
    have ZB := Lib.hid hzb
    have hzl := hIz.len
    clear hbel hIz hzb
    go_loopw [12, 11] (fun i v wr => ∃ k : Nat, k ≤ zs.length ∧ i = .int .i64 k ∧ Own wr 3 wz.heap.size v ((zs.take k).map fun x => x * u) ∧ Below wz.heap.size wz wr) (fun i _ _ => zs.length - (intOf i).toNat)
    case atStart => exact ⟨0, Nat.zero_le _, rfl, Own.nil _ _ _, Below.refl _ _⟩
    case round =>
      obtain ⟨k, hk, rfl, hown, hbw⟩ := hrel
      have HO := Lib.hid hown
      have HB := Lib.hid hbw
      have hsz := hbw.size
      by_cases hlt : k < zs.length
      · obtain ⟨b, off, x, rfl, hbl, hcell0, hx⟩ := HZ.out.get hlt
        have hcell := (hbw.cell (p := ⟨b, off + k, none⟩) hbl).trans hcell0
        have hst := Lib.hid (En.take_snoc hlt)
        have hxb : 0 ≤ x ∧ x ≤ 68719476736 := by
          rw [← hx.out, List.getD_eq_getElem?_getD, List.getElem?_eq_getElem hlt]
          exact ZB.out _ (List.getElem_mem hlt)
        have hm0 : 0 ≤ x * u := Int.mul_nonneg hxb.1 (by omega)
        have hm1 : x * u ≤ 68719476736 * 100000 := Int.mul_le_mul hxb.2 u1 (by omega) (by omega)
        have hmw : IntKind.i64.wrap (x * u) = x * u := by
          generalize x * u = y at hm0 hm1 ⊢
          rw [IntKind.wrap_i64]; omega
        clear hown hbw hcell0
        go_wp2_with (first | (at_builtin; (refine Own.append HI.out.1 HI.out.2.1 HI.out.2.2.1 HI.out.2.2.2 Try.underlying28 rfl (.tmp 46) (.tmp 53) rfl wz.heap.size _ _ _ HO.out rfl rfl (by omega) (by rw [List.length_map, List.length_take]; omega) ?_); intro v1 w5 hown1 hb5))
        have HO5 := Lib.hid hown1
        have HB5 := Lib.hid (HB.out.trans hb5)
        clear hown1 hb5
        go_roundw
        case rel => exact ⟨k + 1, by omega, by go_num, by rw [hst.out, hx.out]; simpa using HO5.out, HB5.out⟩
        case measure => simp [intOf]; omega
      · obtain rfl : k = zs.length := by omega
        rw [List.take_length] at HO
        obtain ⟨p4, c4, rfl, hI4⟩ := HO.out.ints
        have HI4 := Lib.hid hI4
        clear hI4 hown hbw hlt hk
        go_wp2
        go_ret2
        exact ⟨p4, c4, by rw [hsc.out]; simp, by rw [hsc.out]; exact HI4.out, bnext BEL.out BEL.out.size HB.out⟩
  · go_enter Try.func36, Try.ntmps36
    go_wp2_with (first | (go_at_call 68; refine (hc.out).mono ?_; rintro en w1 ⟨q, c, rfl, hI, hb1⟩))
    rw [← HL.out]
    have hsc := Lib.hid (show En.scale e u l = (En.units u l).map fun x => x * u by unfold En.scale En.paid; rw [if_pos hg, if_neg (by omega)])
    have hzb : ∀ x ∈ En.units u l, 0 ≤ x ∧ x ≤ 68719476736 := hG.out.unit
    have hzn : (En.units u l).length ≤ 64 := by rw [En.units_len]; exact hG.out.len
    have hbel : Below w.heap.size w w1 := hb1
    have hIz := hI
    clear hI hb1 HL HE hc hq hg hdq
    generalize En.units u l = zs at *
    obtain ⟨wz, rfl⟩ : ∃ wz : World, wz = w1 := ⟨_, rfl⟩
    obtain ⟨i0, hi, hz0, hz1, hz2⟩ := info_parts info_int
    have HI := Lib.hid (And.intro hi (And.intro hz0 (And.intro hz1 hz2)))
    clear hi hz0 hz1 hz2
    have u1 := hG.out.u1
    have u0 := hG.out.u0
    have BEL := Lib.hid hbel
    have HZ := Lib.hid hIz
    have ZB := Lib.hid hzb
    have hzl := hIz.len
    clear hbel hIz hzb
    go_loopw [12, 11] (fun i v wr => ∃ k : Nat, k ≤ zs.length ∧ i = .int .i64 k ∧ Own wr 3 wz.heap.size v ((zs.take k).map fun x => x * u) ∧ Below wz.heap.size wz wr) (fun i _ _ => zs.length - (intOf i).toNat)
    case atStart => exact ⟨0, Nat.zero_le _, rfl, Own.nil _ _ _, Below.refl _ _⟩
    case round =>
      obtain ⟨k, hk, rfl, hown, hbw⟩ := hrel
      have HO := Lib.hid hown
      have HB := Lib.hid hbw
      have hsz := hbw.size
      by_cases hlt : k < zs.length
      · obtain ⟨b, off, x, rfl, hbl, hcell0, hx⟩ := HZ.out.get hlt
        have hcell := (hbw.cell (p := ⟨b, off + k, none⟩) hbl).trans hcell0
        have hst := Lib.hid (En.take_snoc hlt)
        have hxb : 0 ≤ x ∧ x ≤ 68719476736 := by
          rw [← hx.out, List.getD_eq_getElem?_getD, List.getElem?_eq_getElem hlt]
          exact ZB.out _ (List.getElem_mem hlt)
        have hm0 : 0 ≤ x * u := Int.mul_nonneg hxb.1 (by omega)
        have hm1 : x * u ≤ 68719476736 * 100000 := Int.mul_le_mul hxb.2 u1 (by omega) (by omega)
        have hmw : IntKind.i64.wrap (x * u) = x * u := by
          generalize x * u = y at hm0 hm1 ⊢
          rw [IntKind.wrap_i64]; omega
        clear hown hbw hcell0
        go_wp2_with (first | (at_builtin; (refine Own.append HI.out.1 HI.out.2.1 HI.out.2.2.1 HI.out.2.2.2 Try.underlying28 rfl (.tmp 46) (.tmp 53) rfl wz.heap.size _ _ _ HO.out rfl rfl (by omega) (by rw [List.length_map, List.length_take]; omega) ?_); intro v1 w5 hown1 hb5))
        have HO5 := Lib.hid hown1
        have HB5 := Lib.hid (HB.out.trans hb5)
        clear hown1 hb5
        go_roundw
        case rel => exact ⟨k + 1, by omega, by go_num, by rw [hst.out, hx.out]; simpa using HO5.out, HB5.out⟩
        case measure => simp [intOf]; omega
      · obtain rfl : k = zs.length := by omega
        rw [List.take_length] at HO
        obtain ⟨p4, c4, rfl, hI4⟩ := HO.out.ints
        have HI4 := Lib.hid hI4
        clear hI4 hown hbw hlt hk
        go_wp2
        go_ret2
        exact ⟨p4, c4, by rw [hsc.out]; simp, by rw [hsc.out]; exact HI4.out, bnext BEL.out BEL.out.size HB.out⟩

theorem scale_any (e u : Int) (p : Option Addr) (l : List Int) (cap : Nat) (w : World) (h : Ints w p l) :
    Calls Try.prog 35 #[.int .i64 e, .int .i64 u, .slice p l.length cap] w (GivesInts w (En.scale e u l) (En.err e u l)) := by
  by_cases hg : En.err e u l = 0
  · have := scale_good e u p l cap w h hg
    rw [hg]; exact this
  · exact scale_bad e u p l cap w h hg

theorem refscale_any (e u : Int) (p : Option Addr) (l : List Int) (cap : Nat) (w : World) (h : Ints w p l) :
    Calls Try.prog 36 #[.int .i64 e, .int .i64 u, .slice p l.length cap] w (GivesInts w (En.scale e u l) (En.err e u l)) := by
  by_cases hg : En.err e u l = 0
  · have := refscale_good e u p l cap w h hg
    rw [hg]; exact this
  · exact refscale_bad e u p l cap w h hg

set_option maxHeartbeats 1000000 in
theorem refints24_any (p q : Option Addr) (xs ys : List Int) (c d : Nat) (w : World) (hx : Ints w p xs) (hy : Ints w q ys) :
    Calls Try.prog 39 #[.slice p xs.length c, .slice q ys.length d] w fun e w' => e = .returned (.bool (decide (xs = ys))) ∧ ∃ n, w' = w.drewN n := by
  have l1 := hx.len
  have l2 := hy.len
  by_cases hn : xs.length = ys.length
  · have hnB : ((xs.length : Int) != (ys.length : Int)) = false := by rw [hn]; simp
    have Hx := Lib.hid hx
    have Hy := Lib.hid hy
    have Hn := Lib.hid hn
    clear hx hy hn
    go_enter Try.func39, Try.ntmps39
    go_wp2
    go_loopw [5] (fun i wr => ∃ k : Nat, k ≤ xs.length ∧ i = .int .i64 k ∧ (∀ j, j < k → xs.getD j 0 = ys.getD j 0) ∧ ∃ n, wr = w.drewN n) (fun i _ => xs.length - (intOf i).toNat)
    case atStart => exact ⟨0, Nat.zero_le _, rfl, fun j hj => absurd hj (by omega), 0, rfl⟩
    case round =>
      obtain ⟨k, hk, rfl, hall, n, rfl⟩ := hrel
      have HA := Lib.hid hall
      clear hall
      by_cases hlt : k < xs.length
      · obtain ⟨b, off, x, rfl, hbl, hcx, hx'⟩ := Hx.out.get hlt
        obtain ⟨b', off', y, rfl, hbl', hcy, hy'⟩ := Hy.out.get (k := k) (by have := Hn.out; omega)
        have hk0 : (0 : Int) ≤ (k : Int) := Int.natCast_nonneg _
        have hk1 : (k : Int) < (xs.length : Int) := by omega
        have hk2 : (k : Int) < (ys.length : Int) := by have := Hn.out; omega
        by_cases he : x = y
        · have hb : (x != y) = false := by simp [he]
          have He := Lib.hid he
          clear he
          go_wp2_with fail
          go_quiet (fail)
          go_wp2
          go_roundw
          case rel => exact ⟨k + 1, by omega, by go_num, fun j hj => by
            by_cases e : j = k
            · subst e; rw [hx'.out, hy'.out, He.out]
            · exact HA.out j (by omega), _, rfl⟩
          case measure => simp [intOf]; omega
        · have hb : (x != y) = true := by simp [he]
          have hne : xs ≠ ys := fun e => he (by rw [← hx'.out, ← hy'.out, e])
          have HN := Lib.hid hne
          clear he hne
          go_wp2_with fail
          go_quiet (fail)
          go_wp2
          go_ret
          exact ⟨ret_bool (decide_eq_false HN.out).symm, _, drewN_two _ _ _⟩
      · obtain rfl : k = xs.length := by omega
        have he : xs = ys := by
          apply List.ext_getElem Hn.out
          intro j h1 h2
          have := HA.out j h1
          simpa [List.getD_eq_getElem?_getD, h1, h2] using this
        have HE := Lib.hid he
        clear he
        go_wp2
        go_ret
        exact ⟨ret_bool (decide_eq_true HE.out).symm, n, rfl⟩
  · have hnB : ((xs.length : Int) != (ys.length : Int)) = true := by simp; omega
    have HN := Lib.hid (show ¬ xs = ys from fun e => hn (by rw [e]))
    clear hx hy hn
    go_enter Try.func39, Try.ntmps39
    go_wp2
    go_ret
    exact ⟨ret_bool (decide_eq_false HN.out).symm, 0, rfl⟩


theorem ex33a : En.err 100 10 [95, 59] = 0 ∧ En.scale 100 10 [95, 59] = [60, 40] := by
  have he : En.err 100 10 [95, 59] = 0 := by decide +kernel
  refine ⟨he, ?_⟩
  have ho : Sh.order 2 (Sh.rest 10 [9, 5]) = [1, 0] := Sh.order_unique (by decide) (by decide +kernel)
  have hs : shList 10 [9, 5] = [6, 4] := by
    unfold shList
    rw [if_neg (by decide +kernel), if_neg (by decide +kernel)]
    unfold Sh.shares Sh.share Sh.top
    simp only [List.length_cons, List.length_nil, Nat.zero_add, Nat.reduceAdd]
    rw [ho]
    decide +kernel
  have hu : En.units 10 [95, 59] = [9, 5] := by decide +kernel
  unfold En.scale En.paid
  rw [if_pos he, if_pos (by decide +kernel), hu, show (100 : Int) / 10 = 10 from by decide, hs]
  decide

theorem ex33b : En.factor 100 10 [95, 59] = (10, 14) ∧ En.scaled 100 10 [95, 59] = true ∧ Ex.down 95 10 = 9 := by decide +kernel

end Go.Proofs.Ytlmikbjnibiajaa
