/-
  THE WALK over ref29.Group, for any arguments.
-/
import Derived.Test.YtmgdbbmheiligaaRu
import Derived.Deep.AppendLies
import Derived.Deep.RegionHeld3
namespace Go.Proofs.Ytmgdbbmheiligaa
open Go.RowKit

theorem bdrew' {B : Nat} {w w1 : World} (h : Below B w.drew w1) : Below B w w1 := ⟨h.os, h.tape, h.output, h.size, h.block⟩
theorem Own.drew {w : World} {T : TypeId} {B : Nat} {v : Value} {xs : List Int} (h : Own w T B v xs) : Own w.drew T B v xs := h
theorem Own.drews {w : World} {T : TypeId} {B : Nat} {v : Value} {xs : List Int} (n : Nat) (h : Own w T B v xs) : Own (w.drewN n) T B v xs := h.below (drewN_below _ n)
theorem Own.cut {w : World} {T : TypeId} {B : Nat} {v : Value} {xs : List Int} (h : Own w T B v xs) {n : Nat} (hn : xs.length = n) : ∃ p c, v = .slice p n c ∧ Ints w p xs := by subst hn; exact h.ints

/-- append of one int to a row of the call's own, at a step of a region that draws its order. -/
theorem Own.stepAppend {P : Program} {T TS : TypeId} {i0 : TypeInfo} (hi : P.info? T = some i0) (hz0 : i0.zero = some (.int .i64 0)) (hz1 : i0.size = 1) (hz2 : i0.bytes = 8) (ht : P.underlying TS = some (.slice T)) {w : World} {ops : Array Oper} {o : Oper} {a : Act} {K : Act → World → Prop} {Q : Exit → Act → World → Prop} {E : Prop} (hgd : o.guard = none) (s x : Operand)
    (ho : o.op = .call { callee := .builtin .append, args := #[s, x], argTypes := #[TS, TS] }) (B : Nat) (v : Value) (xs : List Int) (y : Int) (hown : Own w T B v xs) (hs : a.eval s = v)
    (hx : a.eval x = .slice (some ⟨w.heap.size, 0, none⟩) 1 1) (hB : B ≤ w.heap.size) (hn : xs.length < 1099511627776)
    (h : ∀ v' w', Own w' T B v' (xs ++ [y]) → Below B w w' → K (a.put o.dst v') w') : if Region.wanted o (yielded ops a.tmps) = true then Oper.wp P o a (w.alloc (.cells #[.int .i64 y] T)) K Q else E := by
  refine step_append_lies _ hgd s x TS ho B T i0 (.int .i64 0) 1 8 ht hi hz0 hz1 hz2 rfl (by decide) v xs.length (xs.map (Value.int .i64)) hs (World.ownsRow.alloc hown _) ⟨w.heap.size, 0, none⟩ 1 1 [.int .i64 y] hx rfl (cell_one_new _ _ _) (by simp [Value.oneCell']) (by decide) (by unfold maxLen; omega) (by omega) (by simp; omega) _ rfl ?_
  intro g cap w' h1 h2 _ _
  refine h _ w' ?_ ?_
  · unfold Own
    rw [List.length_append, List.map_append]
    exact h1
  · refine (((Below.refl B w).alloc hB _).grown h2 (by simp; omega) fun k hk => ?_)
    exact (World.ownsRow.lt hown k hk).1

theorem areas_take_succ {a : List Int} {k : Nat} {x : Int} (h : areas (a.take k)) (hk : k < a.length) (hx : a.getD k 0 = x) (h0 : 0 ≤ x ∧ x ≤ 268435456) : areas (a.take (k + 1)) := fun y hy => by
  rw [List.take_succ_eq_append_getElem hk] at hy
  rcases List.mem_append.1 hy with hy | hy
  · exact h y hy
  · obtain rfl := List.mem_singleton.1 hy
    rw [List.getD_eq_getElem?_getD, List.getElem?_eq_getElem hk] at hx
    simp only [Option.getD_some] at hx
    rw [hx]; exact h0

theorem wk_areas_k {a b : List Int} {k : Nat} (ha : areas (a.take k)) (hb : areas (b.take k)) : areas (wk a b k) := fun x hx => by
  obtain ⟨i, hi, rfl⟩ := List.mem_map.1 hx
  have hi := List.mem_range.1 hi
  have h1 := areas_at ha i
  have h2 := areas_at hb i
  have e1 : (a.take k).getD i 0 = a.getD i 0 := by rw [List.getD_eq_getElem?_getD, List.getD_eq_getElem?_getD, List.getElem?_take, if_pos hi]
  have e2 : (b.take k).getD i 0 = b.getD i 0 := by rw [List.getD_eq_getElem?_getD, List.getD_eq_getElem?_getD, List.getElem?_take, if_pos hi]
  rw [e1] at h1
  rw [e2] at h2
  omega

theorem any_of {l : List Int} {k : Nat} {x : Int} (hk : k < l.length) (hx : l.getD k 0 = x) (h : Re.area x = false) : (l.any fun x => !Re.area x) = true := by
  rw [List.any_eq_true]
  refine ⟨x, ?_, by rw [h]; rfl⟩
  rw [List.getD_eq_getElem?_getD, List.getElem?_eq_getElem hk] at hx
  simp only [Option.getD_some] at hx
  rw [← hx]
  exact List.getElem_mem hk

theorem grp_two {D : List (Int × Int)} {a b : List Int} (hR : Re.Right D) (hl : b.length = a.length) (h64 : a.length ≤ 64) (h : (a.any fun x => !Re.area x) = true ∨ (b.any fun x => !Re.area x) = true ∨ 268435456 < Sh.sum a) : grpErr D a b = 2 ∧ grpVal D a b = [] := by
  have e : grpErr D a b = 2 := by unfold grpErr; rw [if_neg (by rw [Re.chk_zero.2 hR]; simp), if_neg (by omega), if_pos h]
  exact ⟨e, by unfold grpVal; rw [if_pos (by rw [e]; simp)]⟩

theorem any_not {l : List Int} (h : areas l) : ¬ (l.any fun x => !Re.area x) = true := by rw [areas_any h]; simp

set_option maxRecDepth 100000 in
set_option maxHeartbeats 8000000 in
theorem refgroup_lens (p : Option Addr) (D : List (Int × Int)) (cap : Nat) (q : Option Addr) (a : List Int) (ca : Nat) (r : Option Addr) (b : List Int) (cb : Nat) (w : World) (hP : Pairs w p D) (hA : Ints w q a) (hB : Ints w r b)
    (hR : Re.Right D) (hl : b.length = a.length) (h64 : a.length ≤ 64) :
    Calls Try.prog 53 #[.slice p D.length cap, .slice q a.length ca, .slice r b.length cb] w (GivesInts w (grpVal D a b) (grpErr D a b)) := by
  have hc := refrcheck_any p D cap w hP
  rw [Re.chk_zero.2 hR] at hc
  have HC := Lib.hid hc
  have HPD := Lib.hid (fun (W : World) (h : Pairs W p D) => refpaid_any p D cap (Sh.sum a) (Sh.sum (wk a b a.length)) W h)
  have HSH := Lib.hid (fun (W : World) (v : Option Addr) (k : Nat) (h : Ints W v (wk a b a.length)) => refshares_any (Re.paid D (Sh.sum a) (Sh.sum (wk a b a.length))) v (wk a b a.length) k W h)
  have A := Lib.hid hA
  have B := Lib.hid hB
  have PD := Lib.hid hP
  have hlB : ((b.length : Int) != (a.length : Int)) = false := by rw [hl]; simp
  have LB := Lib.hid hl
  have HR := Lib.hid hR
  obtain ⟨i0, hi, hz0, hz1, hz2⟩ := info_parts info_int
  have HI := Lib.hid (And.intro hi (And.intro hz0 (And.intro hz1 hz2)))
  clear hi hz0 hz1 hz2 hc hA hB hP hl hR
  go_enter Try.func53, Try.ntmps53
  go_wp2_with (first | (go_at_call 47; refine (HC.out).mono ?_; rintro e w1 ⟨rfl, n1, rfl⟩))
  have A3 := Lib.hid (A.out.below (drewN_below w n1))
  have B3 := Lib.hid (B.out.below (drewN_below w n1))
  have P3 := Lib.hid (PD.out.below (drewN_below w n1))
  have BEL := Lib.hid (drewN_below w n1)
  have hwz : w.heap.size = (w.drewN n1).heap.size := rfl
  obtain ⟨wz, ez⟩ : ∃ wz : World, wz = w.drewN n1 := ⟨_, rfl⟩
  rw [← ez] at A3 B3 P3 BEL hwz
  rw [← ez]
  have SZ := Lib.hid hwz
  clear ez hwz A B PD HC
  go_loopw [9, 10, 11, 12] (fun s t v i wr => ∃ (k : Nat) (pw : Option Addr) (cw : Nat), k ≤ a.length ∧ i = .int .i64 k ∧ s = .int .i64 (Sh.sum (a.take k)) ∧ t = .int .i64 (Sh.sum (wk a b k)) ∧ v = .slice pw k cw ∧ Own wr 3 wz.heap.size (.slice pw k cw) (wk a b k) ∧ areas (a.take k) ∧ areas (b.take k) ∧ Below wz.heap.size wz wr) (fun _ _ _ i _ => a.length - (intOf i).toNat)
  case atStart => exact ⟨0, none, 0, Nat.zero_le _, rfl, by simp [Sh.sum], by simp [wk, Sh.sum], rfl, by simpa [wk] using Own.nil _ _ _, by simp [areas], by simp [areas], Below.refl _ _⟩
  case round =>
    obtain ⟨k, pw, cw, hk, rfl, rfl, rfl, rfl, hown, ha, hb, hbw⟩ := hrel
    have HO := Lib.hid hown
    have HB := Lib.hid hbw
    have AA := Lib.hid ha
    have AB := Lib.hid hb
    have hsz := hbw.size
    have hkb : k ≤ b.length := by rw [LB.out]; exact hk
    have WA := Lib.hid (wk_areas_k ha hb)
    have t0 := areas_sum ha (by rw [List.length_take]; omega)
    have t1 := areas_sum WA.out (by rw [wk_len]; omega)
    clear hown hbw ha hb
    by_cases hlt : k < a.length
    · obtain ⟨g, off, x, rfl, hgl, hx0, hx⟩ := A3.out.get hlt
      obtain ⟨g', off', y, rfl, hgl', hy0, hy⟩ := B3.out.get (k := k) (by rw [LB.out]; exact hlt)
      have hx1 := (HB.out.cell (p := ⟨g, off + k, none⟩) hgl).trans hx0
      have hy1 := (HB.out.cell (p := ⟨g', off' + k, none⟩) hgl').trans hy0
      have hlb : k < b.length := by rw [LB.out]; exact hlt
      have hk0 : (0 : Int) ≤ (k : Int) := Int.natCast_nonneg _
      have hk1 : (k : Int) < (a.length : Int) := by omega
      have hk2 : (k : Int) < (b.length : Int) := by omega
      clear hx0 hy0
      cases ax : Re.area x
      · have hE := Lib.hid (grp_two HR.out LB.out h64 (.inl (any_of hlt hx.out ax)))
        go_wp2_with (first | (go_at_call 76; refine (refarea_any _ _).mono ?_; rintro e w' ⟨rfl, rfl⟩))
        go_ret2
        rw [hE.out.1, hE.out.2]
        exact .nil (bnext BEL.out (by rw [SZ.out]; exact Nat.le_refl _) HB.out)
      cases ay : Re.area y
      · have hE := Lib.hid (grp_two HR.out LB.out h64 (.inr (.inl (any_of hlb hy.out ay))))
        go_wp2_with (first | (go_at_call 76; refine (refarea_any _ _).mono ?_; rintro e w' ⟨rfl, rfl⟩))
        go_ret2
        rw [hE.out.1, hE.out.2]
        exact .nil (bnext BEL.out (by rw [SZ.out]; exact Nat.le_refl _) HB.out)
      have bx := Re.area_iff.1 ax
      have by_ := Re.area_iff.1 ay
      have hst := Lib.hid (sum_take_succ (l := a) (k := k) hlt)
      have hwk := Lib.hid (wk_succ a b k)
      have hwl := Lib.hid (wk_len a b k)
      have NA := Lib.hid (areas_take_succ AA.out hlt hx.out bx)
      have NB := Lib.hid (areas_take_succ AB.out hlb hy.out by_)
      have hs1 : IntKind.i64.wrap (Sh.sum (a.take k) + x) = Sh.sum (a.take k) + x := by rw [IntKind.wrap_i64]; omega
      have hs2 : IntKind.i64.wrap (Sh.sum (wk a b k) + min x y) = Sh.sum (wk a b k) + min x y := by rw [IntKind.wrap_i64]; omega
      go_wp2_with (first | (go_at_call 76; refine (refarea_any _ _).mono ?_; rintro e w' ⟨rfl, rfl⟩))
      go_region_held3 (fun w' => w'.cell? ⟨g, off + k, none⟩ = some (.int .i64 x) ∧ w'.cell? ⟨g', off' + k, none⟩ = some (.int .i64 y)) (first | exact ⟨hx1, hy1⟩ | exact ⟨(hb5.cell (p := ⟨g, off + k, none⟩) hgl).trans hx1, (hb5.cell (p := ⟨g', off' + k, none⟩) hgl').trans hy1⟩ | go_keep)
        ((refine Own.stepAppend HI.out.1 HI.out.2.1 HI.out.2.2.1 HI.out.2.2.2 Try.underlying22 (by rfl) (.tmp 50) (.tmp 60) (by rfl) wz.heap.size _ _ _ HO.out.drew (by rfl) (by rfl) (by show wz.heap.size ≤ wr.heap.size; omega) (by rw [hwl.out]; omega) ?_; intro v1 w5 hown1 hb5))
      have hx2 := (hb5.cell (p := ⟨g, off + k, none⟩) hgl).trans hx1
      obtain ⟨p1, c1, rfl, hI1⟩ := hown1.cut (n := k + 1) (by rw [List.length_append, hwl.out]; rfl)
      obtain ⟨g1, o1, z1, rfl, hg1, hz1, hzz⟩ := hI1.get (k := k) (by rw [List.length_append, hwl.out]; simp)
      obtain rfl : min x y = z1 := by rw [← hzz.out]; simp [List.getD_eq_getElem?_getD, hwl.out]
      have hk3 : (k : Int) < ((k + 1 : Nat) : Int) := by omega
      go_wp2_with fail
      go_quiet (fail)
      have HO5 := Lib.hid hown1
      have HB5 := Lib.hid (HB.out.trans (bdrew' hb5))
      clear hown1 hb5 hI1
      go_wp2
      go_roundw
      case rel => exact ⟨k + 1, _, _, by omega, by go_num, by rw [hst.out, hx.out], by rw [hwk.out, hx.out, hy.out, Sh.sum_snoc], rfl, by rw [hwk.out, hx.out, hy.out]; exact HO5.out.drews _, NA.out, NB.out, bnext HB5.out HB5.out.size (drewN_below _ _)⟩
      case measure => simp [intOf]; omega
    · obtain rfl : k = a.length := by omega
      have e1 : a.take a.length = a := List.take_length
      have e2 : b.take a.length = b := by rw [← LB.out]; exact List.take_length
      have A1 := Lib.hid (show areas a from e1 ▸ AA.out)
      have A2 := Lib.hid (show areas b from e2 ▸ AB.out)
      rw [e1] at t0
      rw [e1]
      clear e1 e2 AA AB
      have BEL2 := Lib.hid (bnext BEL.out (by rw [SZ.out]; exact Nat.le_refl _) HB.out)
      have wl := wk_le (a := a) (b := b) a.length (Nat.le_refl _)
      rw [List.take_length] at wl
      by_cases hs : 268435456 < Sh.sum a
      · have hE := Lib.hid (grp_two HR.out LB.out h64 (.inr (.inr hs)))
        have ha : Re.area (Sh.sum a) = false := Re.area_not.2 (.inr hs)
        go_wp2_with (first | (go_at_call 76; refine (refarea_any _ _).mono ?_; rintro e w' ⟨rfl, rfl⟩))
        go_ret2
        rw [hE.out.1, hE.out.2]
        exact .nil BEL2.out
      · have ha : Re.area (Sh.sum a) = true := Re.area_iff.2 ⟨t0.1, by omega⟩
        have hb : Re.area (Sh.sum (wk a b a.length)) = true := Re.area_iff.2 ⟨t1.1, by omega⟩
        have hpe : Re.paidErr D (Sh.sum a) (Sh.sum (wk a b a.length)) = 0 := by
          unfold Re.paidErr; rw [if_neg (by rw [Re.chk_zero.2 HR.out]; simp), if_neg (by rw [ha, hb]; simp)]
        have hpv : Re.paidVal D (Sh.sum a) (Sh.sum (wk a b a.length)) = Re.paid D (Sh.sum a) (Sh.sum (wk a b a.length)) := by unfold Re.paidVal; rw [if_neg (by rw [hpe]; simp)]
        have hpd := HPD.out
        rw [hpe, hpv] at hpd
        have HPD2 := Lib.hid hpd
        have he : grpErr D a b = 0 := by
          unfold grpErr
          rw [if_neg (by rw [Re.chk_zero.2 HR.out]; simp), if_neg (by have := LB.out; omega), if_neg]
          rintro (h | h | h)
          · exact any_not A1.out h
          · exact any_not A2.out h
          · exact hs h
        have hv : grpVal D a b = shList (Re.paid D (Sh.sum a) (Sh.sum (wk a b a.length))) (wk a b a.length) := by unfold grpVal; rw [if_neg (by rw [he]; simp)]
        have hpb := HR.out.paid_bd t0.1 t1.1
        have hse : shErr (Re.paid D (Sh.sum a) (Sh.sum (wk a b a.length))) (wk a b a.length) = 0 := by
          unfold shErr
          rw [if_neg (by rw [wk_len]; omega), if_neg]
          rintro (h | h)
          · rw [Sh.limited_iff.2 ⟨by omega, by omega⟩] at h; cases h
          · obtain ⟨x, hx, hx2⟩ := List.any_eq_true.1 h
            have := WA.out x hx
            rw [Sh.limited_iff.2 ⟨by omega, by omega⟩] at hx2
            simp at hx2
        have hshn := HSH.out
        rw [hse, wk_len] at hshn
        have HSN := Lib.hid hshn
        have HE := Lib.hid he
        have HV := Lib.hid hv
        obtain ⟨p4, c4, e4, hI4⟩ := HO.out.cut (n := a.length) (wk_len a b _)
        simp only [Value.slice.injEq, true_and] at e4
        obtain ⟨rfl, rfl⟩ := e4
        have HI4 := Lib.hid hI4
        have HP4 := Lib.hid (P3.out.below (HB.out.mono (Nat.le_refl _)))
        clear hI4 hk hshn t0 t1 hpe hpv hpd hse he hv hpb HPD HSH HO wl hb
        go_wp2_with (first | (go_at_call 76; refine (refarea_any _ _).mono ?_; rintro e w' ⟨rfl, rfl⟩) | (go_at_call 49; refine (HPD2.out _ HP4.out).mono ?_; rintro e w6 ⟨rfl, n6, rfl⟩) | (go_at_call 31; refine (HSN.out _ _ _ (HI4.out.below (drewN_below _ n6))).mono ?_; rintro e w7 ⟨p7, c7, rfl, hI7, hb7⟩))
        go_ret2
        rw [HE.out, HV.out]
        exact ⟨p7, c7, rfl, hI7, bstep (Nat.le_refl _) (bstep (Nat.le_refl _) BEL2.out (drewN_below _ n6)) hb7⟩

set_option maxRecDepth 100000 in
set_option maxHeartbeats 2000000 in
theorem refgroup_any (p : Option Addr) (D : List (Int × Int)) (cap : Nat) (q : Option Addr) (a : List Int) (ca : Nat) (r : Option Addr) (b : List Int) (cb : Nat) (w : World) (hP : Pairs w p D) (hA : Ints w q a) (hB : Ints w r b) :
    Calls Try.prog 53 #[.slice p D.length cap, .slice q a.length ca, .slice r b.length cb] w (GivesInts w (grpVal D a b) (grpErr D a b)) := by
  have la := hA.len
  have lb := hB.len
  by_cases hg : Re.Right D ∧ b.length = a.length ∧ a.length ≤ 64
  · exact refgroup_lens p D cap q a ca r b cb w hP hA hB hg.1 hg.2.1 hg.2.2
  have hc := refrcheck_any p D cap w hP
  rcases grp_cases D a b with ⟨c, e, e2⟩ | ⟨c, hR, ⟨h1, e, e2⟩ | ⟨h1, ⟨h2, e, e2⟩ | ⟨h2, -⟩⟩⟩
  · rw [c] at hc; rw [e, e2]
    have HC := Lib.hid hc
    clear hc hP hA hB c e e2 hg
    go_enter Try.func53, Try.ntmps53
    go_wp2_with (first | (go_at_call 47; refine (HC.out).mono ?_; rintro e w1 ⟨rfl, n1, rfl⟩))
    go_ret2
    exact .nil (drewN_below _ _)
  · rw [c] at hc; rw [e, e2]
    have HC := Lib.hid hc
    clear hc hP hA hB c e e2 hR hg
    go_enter Try.func53, Try.ntmps53
    go_wp2_with (first | (go_at_call 47; refine (HC.out).mono ?_; rintro e w1 ⟨rfl, n1, rfl⟩))
    go_ret2
    exact .nil (drewN_below _ _)
  · rw [c] at hc; rw [e, e2]
    have HC := Lib.hid hc
    have hne : ((b.length : Int) != (a.length : Int)) = true := by simp; omega
    clear hc hP hA hB c e e2 hR h2 hg
    go_enter Try.func53, Try.ntmps53
    go_wp2_with (first | (go_at_call 47; refine (HC.out).mono ?_; rintro e w1 ⟨rfl, n1, rfl⟩))
    go_ret2
    exact .nil (drewN_below _ _)
  · exact absurd ⟨hR, h2, h1⟩ hg

end Go.Proofs.Ytmgdbbmheiligaa
