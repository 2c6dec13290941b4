/-
  THE WALKS over reduction.Group and ref29.Group, for any arguments.
-/
import Derived.Test.YtmgdbbmheiligaaRd
import Derived.Test.YtmgdbbmheiligaaRf
import Derived.Test.YtmgdbbmheiligaaRs
import Derived.Test.YtmgdbbmheiligaaI4
namespace Go.Proofs.Ytmgdbbmheiligaa
open Go.RowKit

def grpErr (D : List (Int × Int)) (a b : List Int) : Int :=
  if Re.chk D ≠ 0 then 66 else if 64 < a.length ∨ a.length ≠ b.length then 1 else if (a.any fun x => !Re.area x) = true ∨ (b.any fun x => !Re.area x) = true ∨ 268435456 < Sh.sum a then 2 else 0
def grpVal (D : List (Int × Int)) (a b : List Int) : List Int := if grpErr D a b ≠ 0 then [] else shList (Re.paid D (Sh.sum a) (Sh.sum (wk a b a.length))) (wk a b a.length)

theorem areas_of_any {l : List Int} (h : (l.any fun x => !Re.area x) = false) : areas l := fun x hx => by
  have := List.any_eq_false.1 h x hx
  exact Re.area_iff.1 (by simpa using this)

theorem grp_cases (D : List (Int × Int)) (a b : List Int) :
    (Re.chk D = 66 ∧ grpErr D a b = 66 ∧ grpVal D a b = []) ∨
    (Re.chk D = 0 ∧ Re.Right D ∧ ((64 < a.length ∧ grpErr D a b = 1 ∧ grpVal D a b = []) ∨ (a.length ≤ 64 ∧ ((a.length ≠ b.length ∧ grpErr D a b = 1 ∧ grpVal D a b = []) ∨ (b.length = a.length ∧
      (((a.any fun x => !Re.area x) = true ∧ grpErr D a b = 2 ∧ grpVal D a b = []) ∨ ((a.any fun x => !Re.area x) = false ∧ (b.any fun x => !Re.area x) = true ∧ grpErr D a b = 2 ∧ grpVal D a b = []) ∨
       (areas a ∧ areas b ∧ ((268435456 < Sh.sum a ∧ grpErr D a b = 2 ∧ grpVal D a b = []) ∨ (Sh.sum a ≤ 268435456 ∧ grpErr D a b = 0 ∧ grpVal D a b = shList (Re.paid D (Sh.sum a) (Sh.sum (wk a b a.length))) (wk a b a.length)))))))))) := by
  have hv : ∀ n : Int, n ≠ 0 → grpErr D a b = n → grpErr D a b = n ∧ grpVal D a b = [] := fun n hn h => ⟨h, by unfold grpVal; rw [if_pos (by rw [h]; exact hn)]⟩
  by_cases hR : Re.Right D
  · have c := Re.chk_zero.2 hR
    refine .inr ⟨c, hR, ?_⟩
    by_cases h1 : 64 < a.length
    · exact .inl ⟨h1, hv 1 (by omega) (by unfold grpErr; rw [if_neg (by rw [c]; simp), if_pos (.inl h1)])⟩
    refine .inr ⟨by omega, ?_⟩
    by_cases h2 : a.length ≠ b.length
    · exact .inl ⟨h2, hv 1 (by omega) (by unfold grpErr; rw [if_neg (by rw [c]; simp), if_pos (.inr h2)])⟩
    refine .inr ⟨by omega, ?_⟩
    have hn : ¬ (64 < a.length ∨ a.length ≠ b.length) := by omega
    cases h3 : (a.any fun x => !Re.area x)
    · cases h4 : (b.any fun x => !Re.area x)
      · refine .inr (.inr ⟨areas_of_any h3, areas_of_any h4, ?_⟩)
        by_cases h5 : 268435456 < Sh.sum a
        · exact .inl ⟨h5, hv 2 (by omega) (by unfold grpErr; rw [if_neg (by rw [c]; simp), if_neg hn, if_pos (.inr (.inr h5))])⟩
        · have he : grpErr D a b = 0 := by unfold grpErr; rw [if_neg (by rw [c]; simp), if_neg hn, if_neg (by rw [h3, h4]; simp; omega)]
          exact .inr ⟨by omega, he, by unfold grpVal; rw [if_neg (by rw [he]; simp)]⟩
      · exact .inr (.inl ⟨rfl, rfl, hv 2 (by omega) (by unfold grpErr; rw [if_neg (by rw [c]; simp), if_neg hn, if_pos (.inr (.inl h4))])⟩)
    · exact .inl ⟨rfl, hv 2 (by omega) (by unfold grpErr; rw [if_neg (by rw [c]; simp), if_neg hn, if_pos (.inl h3)])⟩
  · have c := Re.chk_not hR
    exact .inl ⟨c, hv 66 (by omega) (by unfold grpErr; rw [if_pos (by rw [c]; simp)])⟩

set_option maxRecDepth 100000 in
set_option maxHeartbeats 4000000 in
theorem rgroup_big (p : Option Addr) (D : List (Int × Int)) (cap : Nat) (q : Option Addr) (a : List Int) (ca : Nat) (r : Option Addr) (b : List Int) (cb : Nat) (w : World) (hP : Pairs w p D) (hA : Ints w q a) (hB : Ints w r b)
    (hR : Re.Right D) (hl : b.length = a.length) (h64 : a.length ≤ 64) (ha : areas a) (hb : areas b) (hs : 268435456 < Sh.sum a) :
    Calls Try.prog 52 #[.slice p D.length cap, .slice q a.length ca, .slice r b.length cb] w (GivesInts w [] 2) := by
  have s0 := areas_sum ha h64
  have f0 := areas_sum (wk_areas ha hb a.length) (by rw [wk_len]; exact h64)
  have fle := wk_le (a := a) (b := b) a.length (Nat.le_refl _)
  rw [List.take_length] at fle
  have hpe : Re.paidErr D (Sh.sum a) (Sh.sum (wk a b a.length)) = 2 := by
    unfold Re.paidErr; rw [if_neg (by rw [Re.chk_zero.2 hR]; simp), if_pos (.inl (Re.area_not.2 (.inr hs)))]
  have hpv : Re.paidVal D (Sh.sum a) (Sh.sum (wk a b a.length)) = 0 := by unfold Re.paidVal; rw [if_pos (by rw [hpe]; simp)]
  have hc := rcheck_any p D cap w hP
  rw [Re.chk_zero.2 hR] at hc
  have hpd := fun (W : World) (h : Pairs W p D) => paid_any p D cap (Sh.sum a) (Sh.sum (wk a b a.length)) W h
  rw [hpe, hpv] at hpd
  have o1 := fun (W : World) (h : Ints W q a) => contains29 q a ca W h
  rw [areas_any ha] at o1
  have o2 := fun (W : World) (h : Ints W r b) => contains29 r b cb W h
  rw [areas_any hb] at o2
  have HC := Lib.hid hc
  have HPD := Lib.hid hpd
  have O1 := Lib.hid o1
  have O2 := Lib.hid o2
  have A := Lib.hid hA
  have B := Lib.hid hB
  have PD := Lib.hid hP
  have hlB : ((a.length : Int) != (b.length : Int)) = false := by rw [hl]; simp
  have LB := Lib.hid hl
  have AA := Lib.hid ha
  have AB := Lib.hid hb
  obtain ⟨i0, hi, hz0, hz1, hz2⟩ := info_parts info_int
  have HI := Lib.hid (And.intro hi (And.intro hz0 (And.intro hz1 hz2)))
  clear hi hz0 hz1 hz2 hc hpd o1 o2 hA hB hP hl ha hb hpe hpv
  go_enter Try.func52, Try.ntmps52
  go_wp2_with (first | (go_at_call 46; refine (HC.out).mono ?_; rintro e w1 ⟨rfl, hb1⟩) | (go_at_call 63; first | (with_reducible refine Calls.mono (O1.out _ (A.out.below hb1)) ?_; rintro e w2 ⟨rfl, n2, hw2⟩; have HW2 := Lib.hid hw2; clear hw2; have b12 : Below w1.heap.size w1 w2 := (by rw [HW2.out]; exact drewN_below _ _)) | (with_reducible refine Calls.mono (O2.out _ ((B.out.below hb1).below b12)) ?_; rintro e w3 ⟨rfl, n3, hw3⟩; have HW3 := Lib.hid hw3; clear hw3; have b23 : Below w2.heap.size w2 w3 := (by rw [HW3.out]; exact drewN_below _ _))))
  have BEL := Lib.hid (bstep (Nat.le_refl _) (bstep (Nat.le_refl _) hb1 b12) b23)
  have A3 := Lib.hid (((A.out.below hb1).below b12).below b23)
  have B3 := Lib.hid (((B.out.below hb1).below b12).below b23)
  have P3 := Lib.hid (((PD.out.below hb1).below b12).below b23)
  obtain ⟨wz, rfl⟩ : ∃ wz : World, wz = w3 := ⟨_, rfl⟩
  clear hb1 b12 b23 HW2 HW3 A B PD HC O1 O2 s0 f0 fle hs
  go_loopw [10, 11, 12, 42] (fun s t v i wr => ∃ k : Nat, k ≤ a.length ∧ i = .int .i64 k ∧ s = .int .i64 (Sh.sum (a.take k)) ∧ t = .int .i64 (Sh.sum (wk a b k)) ∧ Own wr 3 wz.heap.size v (wk a b k) ∧ Below wz.heap.size wz wr) (fun _ _ _ i _ => a.length - (intOf i).toNat)
  case atStart => exact ⟨0, Nat.zero_le _, rfl, by simp [Sh.sum], by simp [wk, Sh.sum], Own.nil _ _ _, Below.refl _ _⟩
  case round =>
    obtain ⟨k, hk, rfl, rfl, rfl, hown, hbw⟩ := hrel
    have HO := Lib.hid hown
    have HB := Lib.hid hbw
    have hsz := hbw.size
    have t0 := areas_sum (areas_take AA.out k) (by rw [List.length_take]; omega)
    have t1 := areas_sum (wk_areas AA.out AB.out k) (by rw [wk_len]; omega)
    clear hown hbw
    by_cases hlt : k < a.length
    · obtain ⟨g, off, x, rfl, hgl, hx0, hx⟩ := A3.out.get hlt
      obtain ⟨g', off', y, rfl, hgl', hy0, hy⟩ := B3.out.get (k := k) (by rw [LB.out]; exact hlt)
      have hx1 := (HB.out.cell (p := ⟨g, off + k, none⟩) hgl).trans hx0
      have hy1 := (HB.out.cell (p := ⟨g', off' + k, none⟩) hgl').trans hy0
      have bx := areas_at AA.out k
      have by_ := areas_at AB.out k
      rw [hx.out] at bx
      rw [hy.out] at by_
      have hst := Lib.hid (sum_take_succ (l := a) (k := k) hlt)
      have hwk := Lib.hid (wk_succ a b k)
      have hwl := Lib.hid (wk_len a b k)
      have hk0 : (0 : Int) ≤ (k : Int) := Int.natCast_nonneg _
      have hk1 : (k : Int) < (a.length : Int) := by omega
      have hk2 : (k : Int) < (b.length : Int) := by rw [LB.out]; omega
      clear hx0 hy0
      go_wp2_with (first | (at_builtin; (refine Own.append HI.out.1 HI.out.2.1 HI.out.2.2.1 HI.out.2.2.2 Try.underlying22 rfl (.tmp 58) (.tmp 65) rfl wz.heap.size _ _ _ HO.out rfl rfl (by omega) (by rw [hwl.out]; omega) ?_); intro v1 w5 hown1 hb5))
      have HO5 := Lib.hid hown1
      have HB5 := Lib.hid (HB.out.trans hb5)
      clear hown1 hb5
      go_roundw
      case rel => exact ⟨k + 1, by omega, by go_num, by rw [hst.out, hx.out], by rw [hwk.out, hx.out, hy.out, Sh.sum_snoc], by rw [hwk.out, hx.out, hy.out]; exact HO5.out, HB5.out⟩
      case measure => simp [intOf]; omega
    · obtain rfl : k = a.length := by omega
      obtain ⟨p4, c4, rfl, hI4⟩ := HO.out.ints
      rw [wk_len]
      have HI4 := Lib.hid hI4
      have HP4 := Lib.hid (P3.out.below HB.out)
      rw [List.take_length]
      have BEL4 := Lib.hid (bnext BEL.out BEL.out.size HB.out)
      clear hI4 hk t0 t1
      go_wp2_with (first | (go_at_call 48; refine (HPD.out _ HP4.out).mono ?_; rintro e w6 ⟨rfl, hb6⟩))
      go_ret2
      exact ⟨none, 0, rfl, Ints.nil _ _, bstep (Nat.le_refl _) BEL4.out hb6⟩

theorem GivesInts.nil {w w' : World} {n : Int} (h : Below w.heap.size w w') : GivesInts w [] n (.returned (.tuple #[.slice none 0 0, .int .i64 n])) w' := ⟨none, 0, rfl, Ints.nil _ _, h⟩

set_option maxRecDepth 100000 in
set_option maxHeartbeats 4000000 in
theorem rgroup_any (p : Option Addr) (D : List (Int × Int)) (cap : Nat) (q : Option Addr) (a : List Int) (ca : Nat) (r : Option Addr) (b : List Int) (cb : Nat) (w : World) (hP : Pairs w p D) (hA : Ints w q a) (hB : Ints w r b) :
    Calls Try.prog 52 #[.slice p D.length cap, .slice q a.length ca, .slice r b.length cb] w (GivesInts w (grpVal D a b) (grpErr D a b)) := by
  have hc := rcheck_any p D cap w hP
  have la := hA.len
  have lb := hB.len
  rcases grp_cases D a b with ⟨c, e, e2⟩ | ⟨c, hR, ⟨h1, e, e2⟩ | ⟨h1, ⟨h2, e, e2⟩ | ⟨h2, ⟨h3, e, e2⟩ | ⟨h3, h4, e, e2⟩ | ⟨h3, h4, ⟨h5, e, e2⟩ | ⟨h5, e, e2⟩⟩⟩⟩⟩
  all_goals rw [c] at hc; rw [e, e2]
  · have HC := Lib.hid hc
    clear hc hP hA hB c e e2
    go_enter Try.func52, Try.ntmps52
    go_wp2_with (first | (go_at_call 46; refine (HC.out).mono ?_; rintro e w1 ⟨rfl, hb1⟩))
    go_ret2
    exact .nil hb1
  · have HC := Lib.hid hc
    clear hc hP hA hB c e e2 hR
    go_enter Try.func52, Try.ntmps52
    go_wp2_with (first | (go_at_call 46; refine (HC.out).mono ?_; rintro e w1 ⟨rfl, hb1⟩))
    go_ret2
    exact .nil hb1
  · have HC := Lib.hid hc
    have hne : ((a.length : Int) != (b.length : Int)) = true := by simp; omega
    clear hc hP hA hB c e e2 hR h2
    go_enter Try.func52, Try.ntmps52
    go_wp2_with (first | (go_at_call 46; refine (HC.out).mono ?_; rintro e w1 ⟨rfl, hb1⟩))
    go_ret2
    exact .nil hb1
  · have HC := Lib.hid hc
    have o1 := fun (W : World) (h : Ints W q a) => contains29 q a ca W h
    rw [h3] at o1
    have O1 := Lib.hid o1
    have A := Lib.hid hA
    have hlB : ((a.length : Int) != (b.length : Int)) = false := by rw [h2]; simp
    clear hc hP hA hB c e e2 hR o1 h3 h2
    go_enter Try.func52, Try.ntmps52
    go_wp2_with (first | (go_at_call 46; refine (HC.out).mono ?_; rintro e w1 ⟨rfl, hb1⟩) | (go_at_call 63; refine Calls.mono (O1.out _ (A.out.below hb1)) ?_; rintro e w2 ⟨rfl, n2, rfl⟩))
    go_ret2
    exact .nil (bstep (Nat.le_refl _) hb1 (drewN_below _ _))
  · have HC := Lib.hid hc
    have o1 := fun (W : World) (h : Ints W q a) => contains29 q a ca W h
    rw [h3] at o1
    have o2 := fun (W : World) (h : Ints W r b) => contains29 r b cb W h
    rw [h4] at o2
    have O1 := Lib.hid o1
    have O2 := Lib.hid o2
    have A := Lib.hid hA
    have B := Lib.hid hB
    have hlB : ((a.length : Int) != (b.length : Int)) = false := by rw [h2]; simp
    clear hc hP hA hB c e e2 hR o1 o2 h3 h4 h2
    go_enter Try.func52, Try.ntmps52
    go_wp2_with (first | (go_at_call 46; refine (HC.out).mono ?_; rintro e w1 ⟨rfl, hb1⟩) | (go_at_call 63; first | (with_reducible refine Calls.mono (O1.out _ (A.out.below hb1)) ?_; rintro e w2 ⟨rfl, n2, hw2⟩; have HW2 := Lib.hid hw2; clear hw2; have b12 : Below w1.heap.size w1 w2 := (by rw [HW2.out]; exact drewN_below _ _)) | (with_reducible refine Calls.mono (O2.out _ ((B.out.below hb1).below b12)) ?_; rintro e w3 ⟨rfl, n3, hw3⟩; have HW3 := Lib.hid hw3; clear hw3; have b23 : Below w2.heap.size w2 w3 := (by rw [HW3.out]; exact drewN_below _ _))))
    go_ret2
    exact .nil (bstep (Nat.le_refl _) (bstep (Nat.le_refl _) hb1 b12) b23)
  · exact rgroup_big p D cap q a ca r b cb w hP hA hB hR h2 h1 h3 h4 h5
  · exact rgroup_good p D cap q a ca r b cb w hP hA hB hR h2 h1 h3 h4 h5

end Go.Proofs.Ytmgdbbmheiligaa
