/-
  THE WALK over reduction.Group, where nothing is wrong.
-/
import Derived.Test.YtmgdbbmheiligaaRb
import Derived.Test.YtmgdbbmheiligaaEs
namespace Go.Proofs.Ytmgdbbmheiligaa
open Go.RowKit

set_option maxHeartbeats 400000 in
theorem odd29_any (x : Int) (w : World) : Calls Try.prog 77 #[.int .i64 x] w fun e w' => e = .returned (.bool (!Re.area x)) ∧ w = w' := by
  go_enter Try.func77, Try.ntmps77
  go_wp2_with (first | (go_at_call 74; refine (area_any _ _).mono ?_; rintro e w' ⟨rfl, rfl⟩))
  go_ret
  exact ⟨rfl, rfl⟩

theorem odd29_pred (w : World) : PredAt Try.prog 77 #[] (Value.int .i64) (fun x => !Re.area x) w := fun W x _ => by
  unfold FnGives
  exact (odd29_any x W).mono fun e w' ⟨h1, h2⟩ => ⟨h1, 0, h2.symm⟩

theorem contains29 (p : Option Addr) (zs : List Int) (cap : Nat) (w : World) (h : Ints w p zs) :
    Calls Try.prog 63 #[.slice p zs.length cap, .func (.func 77) #[] #[]] w fun e w' => e = .returned (.bool (zs.any fun x => !Re.area x)) ∧ ∃ q, w' = w.drewN q := by
  rcases h.2 with rfl | ⟨b, off, rfl, hl, hc⟩
  · refine (Try.slices_ContainsFunc_empty (α := Int) p cap _ w).mono fun e w' ⟨h1, h2⟩ => ⟨h1, 0, h2⟩
  · have := Try.slices_ContainsFunc (α := Int) (Value.int .i64) (fun x => !Re.area x) 77 #[] (enters_of Try.func77 (by kernel_rfl) rfl) b off zs.length cap zs w (odd29_pred w) (Nat.le_refl _) h.len (fun j hj => by
      rw [hc j hj, List.getElem!_eq_getElem?_getD, List.getD_eq_getElem?_getD]; rfl)
    rwa [List.take_length] at this

/-- The lesser ones of two lists, the first k. -/
def wk (a b : List Int) (k : Nat) : List Int := (List.range k).map fun i => min (a.getD i 0) (b.getD i 0)

theorem wk_succ (a b : List Int) (k : Nat) : wk a b (k + 1) = wk a b k ++ [min (a.getD k 0) (b.getD k 0)] := by
  unfold wk; rw [List.range_succ, List.map_append]; rfl

theorem wk_len (a b : List Int) (k : Nat) : (wk a b k).length = k := by unfold wk; simp

def areas (l : List Int) : Prop := ∀ x ∈ l, 0 ≤ x ∧ x ≤ 268435456

theorem areas_at {l : List Int} (h : areas l) (i : Nat) : 0 ≤ l.getD i 0 ∧ l.getD i 0 ≤ 268435456 := by
  rw [List.getD_eq_getElem?_getD]
  rcases Nat.lt_or_ge i l.length with hi | hi
  · rw [List.getElem?_eq_getElem hi]; exact h _ (List.getElem_mem hi)
  · rw [List.getElem?_eq_none hi]; decide

theorem areas_any {l : List Int} (h : areas l) : (l.any fun x => !Re.area x) = false := by
  rw [List.any_eq_false]
  intro x hx
  rw [Re.area_iff.2 (h x hx)]
  simp

theorem wk_areas {a b : List Int} (ha : areas a) (hb : areas b) (k : Nat) : areas (wk a b k) := fun x hx => by
  obtain ⟨i, _, rfl⟩ := List.mem_map.1 hx
  have := areas_at ha i
  have := areas_at hb i
  omega

theorem areas_sum {l : List Int} (h : areas l) (h64 : l.length ≤ 64) : 0 ≤ Sh.sum l ∧ Sh.sum l ≤ 17179869184 := by
  refine ⟨Sh.sum_nonneg fun x m => (h x m).1, ?_⟩
  have := Sh.sum_le_len fun x m => (h x m).2
  omega

theorem areas_take {l : List Int} (h : areas l) (k : Nat) : areas (l.take k) := fun x hx => h x (List.mem_of_mem_take hx)

theorem wk_le {a b : List Int} (k : Nat) (hk : k ≤ a.length) : Sh.sum (wk a b k) ≤ Sh.sum (a.take k) := by
  induction k with
  | zero => simp [wk, Sh.sum]
  | succ k ih =>
    have := ih (by omega)
    rw [wk_succ, Sh.sum_snoc, sum_take_succ (by omega)]
    omega

set_option maxRecDepth 100000 in
set_option maxHeartbeats 4000000 in
theorem rgroup_good (p : Option Addr) (D : List (Int × Int)) (cap : Nat) (q : Option Addr) (a : List Int) (ca : Nat) (r : Option Addr) (b : List Int) (cb : Nat) (w : World) (hP : Pairs w p D) (hA : Ints w q a) (hB : Ints w r b)
    (hR : Re.Right D) (hl : b.length = a.length) (h64 : a.length ≤ 64) (ha : areas a) (hb : areas b) (hs : Sh.sum a ≤ 268435456) :
    Calls Try.prog 52 #[.slice p D.length cap, .slice q a.length ca, .slice r b.length cb] w (GivesInts w (shList (Re.paid D (Sh.sum a) (Sh.sum (wk a b a.length))) (wk a b a.length)) 0) := by
  have s0 := areas_sum ha h64
  have f0 := areas_sum (wk_areas ha hb a.length) (by rw [wk_len]; exact h64)
  have fle := wk_le (a := a) (b := b) a.length (Nat.le_refl _)
  rw [List.take_length] at fle
  have hpb := hR.paid_bd s0.1 f0.1
  have hse : shErr (Re.paid D (Sh.sum a) (Sh.sum (wk a b a.length))) (wk a b a.length) = 0 := by
    unfold shErr
    rw [if_neg (by rw [wk_len]; omega), if_neg]
    rintro (h | h)
    · rw [Sh.limited_iff.2 ⟨by omega, by omega⟩] at h; cases h
    · obtain ⟨x, hx, hx2⟩ := List.any_eq_true.1 h
      have := wk_areas ha hb a.length x hx
      rw [Sh.limited_iff.2 ⟨by omega, by omega⟩] at hx2
      simp at hx2
  have hpe : Re.paidErr D (Sh.sum a) (Sh.sum (wk a b a.length)) = 0 := by
    unfold Re.paidErr; rw [if_neg (by rw [Re.chk_zero.2 hR]; simp), if_neg]; rw [Re.area_iff.2 ⟨s0.1, hs⟩, Re.area_iff.2 ⟨f0.1, by omega⟩]; simp
  have hpv : Re.paidVal D (Sh.sum a) (Sh.sum (wk a b a.length)) = Re.paid D (Sh.sum a) (Sh.sum (wk a b a.length)) := by unfold Re.paidVal; rw [if_neg (by rw [hpe]; simp)]
  have hc := rcheck_any p D cap w hP
  rw [Re.chk_zero.2 hR] at hc
  have hpd := fun (W : World) (h : Pairs W p D) => paid_any p D cap (Sh.sum a) (Sh.sum (wk a b a.length)) W h
  rw [hpe, hpv] at hpd
  have hsh := fun (W : World) (v : Option Addr) (k : Nat) (h : Ints W v (wk a b a.length)) => shares_any (Re.paid D (Sh.sum a) (Sh.sum (wk a b a.length))) v (wk a b a.length) k W h
  rw [hse] at hsh
  have o1 := fun (W : World) (h : Ints W q a) => contains29 q a ca W h
  rw [areas_any ha] at o1
  have o2 := fun (W : World) (h : Ints W r b) => contains29 r b cb W h
  rw [areas_any hb] at o2
  have HC := Lib.hid hc
  have HPD := Lib.hid hpd
  have HSH := Lib.hid hsh
  have O1 := Lib.hid o1
  have O2 := Lib.hid o2
  have A := Lib.hid hA
  have B := Lib.hid hB
  have PD := Lib.hid hP
  have hlB : ((a.length : Int) != (b.length : Int)) = false := by rw [hl]; simp
  have LB := Lib.hid hl
  have AA := Lib.hid ha
  have AB := Lib.hid hb
  obtain ⟨i0, hi, hz0, hz1, hz2⟩ := info_parts info_int
  have HI := Lib.hid (And.intro hi (And.intro hz0 (And.intro hz1 hz2)))
  clear hi hz0 hz1 hz2 hc hpd hsh o1 o2 hA hB hP hl ha hb hse hpe hpv hpb
  go_enter Try.func52, Try.ntmps52
  go_wp2_with (first | (go_at_call 46; refine (HC.out).mono ?_; rintro e w1 ⟨rfl, hb1⟩) | (go_at_call 63; first | (with_reducible refine Calls.mono (O1.out _ (A.out.below hb1)) ?_; rintro e w2 ⟨rfl, n2, hw2⟩; have HW2 := Lib.hid hw2; clear hw2; have b12 : Below w1.heap.size w1 w2 := (by rw [HW2.out]; exact drewN_below _ _)) | (with_reducible refine Calls.mono (O2.out _ ((B.out.below hb1).below b12)) ?_; rintro e w3 ⟨rfl, n3, hw3⟩; have HW3 := Lib.hid hw3; clear hw3; have b23 : Below w2.heap.size w2 w3 := (by rw [HW3.out]; exact drewN_below _ _))))
  have BEL := Lib.hid (bstep (Nat.le_refl _) (bstep (Nat.le_refl _) hb1 b12) b23)
  have A3 := Lib.hid (((A.out.below hb1).below b12).below b23)
  have B3 := Lib.hid (((B.out.below hb1).below b12).below b23)
  have P3 := Lib.hid (((PD.out.below hb1).below b12).below b23)
  obtain ⟨wz, rfl⟩ : ∃ wz : World, wz = w3 := ⟨_, rfl⟩
  clear hb1 b12 b23 HW2 HW3 A B PD HC O1 O2 s0 f0 fle hs
  go_loopw [10, 11, 12, 42] (fun s t v i wr => ∃ k : Nat, k ≤ a.length ∧ i = .int .i64 k ∧ s = .int .i64 (Sh.sum (a.take k)) ∧ t = .int .i64 (Sh.sum (wk a b k)) ∧ Own wr 3 wz.heap.size v (wk a b k) ∧ Below wz.heap.size wz wr) (fun _ _ _ i _ => a.length - (intOf i).toNat)
  case atStart => exact ⟨0, Nat.zero_le _, rfl, by simp [Sh.sum], by simp [wk, Sh.sum], Own.nil _ _ _, Below.refl _ _⟩
  case round =>
    obtain ⟨k, hk, rfl, rfl, rfl, hown, hbw⟩ := hrel
    have HO := Lib.hid hown
    have HB := Lib.hid hbw
    have hsz := hbw.size
    have t0 := areas_sum (areas_take AA.out k) (by rw [List.length_take]; omega)
    have t1 := areas_sum (wk_areas AA.out AB.out k) (by rw [wk_len]; omega)
    clear hown hbw
    by_cases hlt : k < a.length
    · obtain ⟨g, off, x, rfl, hgl, hx0, hx⟩ := A3.out.get hlt
      obtain ⟨g', off', y, rfl, hgl', hy0, hy⟩ := B3.out.get (k := k) (by rw [LB.out]; exact hlt)
      have hx1 := (HB.out.cell (p := ⟨g, off + k, none⟩) hgl).trans hx0
      have hy1 := (HB.out.cell (p := ⟨g', off' + k, none⟩) hgl').trans hy0
      have bx := areas_at AA.out k
      have by_ := areas_at AB.out k
      rw [hx.out] at bx
      rw [hy.out] at by_
      have hst := Lib.hid (sum_take_succ (l := a) (k := k) hlt)
      have hwk := Lib.hid (wk_succ a b k)
      have hwl := Lib.hid (wk_len a b k)
      have hk0 : (0 : Int) ≤ (k : Int) := Int.natCast_nonneg _
      have hk1 : (k : Int) < (a.length : Int) := by omega
      have hk2 : (k : Int) < (b.length : Int) := by rw [LB.out]; omega
      clear hx0 hy0
      go_wp2_with (first | (at_builtin; (refine Own.append HI.out.1 HI.out.2.1 HI.out.2.2.1 HI.out.2.2.2 Try.underlying22 rfl (.tmp 58) (.tmp 65) rfl wz.heap.size _ _ _ HO.out rfl rfl (by omega) (by rw [hwl.out]; omega) ?_); intro v1 w5 hown1 hb5))
      have HO5 := Lib.hid hown1
      have HB5 := Lib.hid (HB.out.trans hb5)
      clear hown1 hb5
      go_roundw
      case rel => exact ⟨k + 1, by omega, by go_num, by rw [hst.out, hx.out], by rw [hwk.out, hx.out, hy.out, Sh.sum_snoc], by rw [hwk.out, hx.out, hy.out]; exact HO5.out, HB5.out⟩
      case measure => simp [intOf]; omega
    · obtain rfl : k = a.length := by omega
      obtain ⟨p4, c4, rfl, hI4⟩ := HO.out.ints
      rw [wk_len]
      have HI4 := Lib.hid hI4
      have HP4 := Lib.hid (P3.out.below HB.out)
      rw [List.take_length]
      have BEL4 := Lib.hid (bnext BEL.out BEL.out.size HB.out)
      have hshn := HSH.out
      rw [wk_len] at hshn
      have HSN := Lib.hid hshn
      clear hI4 hk hshn t0 t1
      go_wp2_with (first | (go_at_call 48; refine (HPD.out _ HP4.out).mono ?_; rintro e w6 ⟨rfl, hb6⟩) | (go_at_call 30; refine (HSN.out _ _ _ (HI4.out.below hb6)).mono ?_; rintro e w7 ⟨p7, c7, rfl, hI7, hb7⟩))
      go_ret2
      exact ⟨p7, c7, rfl, hI7, bstep (Nat.le_refl _) (bstep (Nat.le_refl _) BEL4.out hb6) hb7⟩

end Go.Proofs.Ytmgdbbmheiligaa
