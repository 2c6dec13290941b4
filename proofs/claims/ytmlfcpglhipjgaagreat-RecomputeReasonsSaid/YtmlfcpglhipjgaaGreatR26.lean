/-
  PACKED (pack8.py): what is needed of the texts Ap, Cd.
-/
import Derived.Test.YtmlfcpglhipjgaaGreatR25
set_option maxRecDepth 100000
set_option maxHeartbeats 2000000
open Go.Value renaming int → I
open Go.IntKind renaming i64 → O
namespace Go.Proofs.YtmlfcpglhipjgaaGreat
open Go.RowKit
theorem Own.copyOf {P : Program} {T TS : TypeId} {i0 : TypeInfo} (hi : P.info? T = some i0) (hz0 : i0.zero = some (I O 0)) (hz1 : i0.size = 1) (hz2 : i0.bytes = 8) (ht : P.underlying TS = some (.slice T)) {w : World} {ops : Array Oper} {rest : List Oper} {o : Oper} {a : Act} {Q : Exit → Act → World → Prop} (hgd : o.guard = none) (s x : Operand)
  (ho : o.op = .call { callee := .builtin .append, args := #[s, x], argTypes := #[TS, TS] }) (xs : List Int) (p : Option Addr) (cap : Nat) (hI : Ints w p xs) (hs : a.eval s = .slice none 0 0)
  (hx : a.eval x = .slice p xs.length cap) (hn : xs.length < 1099511627776)
  (h : ∀ v' w', Own w' T w.heap.size v' xs → Below w.heap.size w w' → wpList P ops Q rest (a.put o.dst v') w') : wpList P ops Q (o :: rest) a w := by
 cases p with
 | none =>
   have hxs : xs = [] := by
    rcases hI.2 with h | ⟨b, off, hp, _⟩
    ·exact h
    ·cases hp
   subst hxs; refine wpList_plain hgd fun K hK => ?_
   have hrun : (Builtin.append_ #[TS, TS] o.type #[.slice none 0 0, .slice none 0 cap]).run P w = .ok (.slice none 0 0) w := by
    simp [Builtin.append_, run_underlying ht, sizeOf, typeInfo, hi, Builtin.lenOf, Builtin.firstCells]
   have hx' : a.eval x = .slice none 0 cap := hx; unfold Oper.wp
   simp [execOp, ho, resolve, invoke, builtin, hs, hx', hrun, Result.andThen]
   exact hK _ _ (h _ _ (Own.nil _ _ _) (brf _ _))
 | some ad =>
   have hc : ∀ j u, (xs.map (Value.int .i64))[j]? = some u → w.cell? (ad.add j) = some u := fun j u hu => by
    have hj : j < xs.length := by
     have := (List.getElem?_eq_some_iff.1 hu).1
     simpa using this
    rcases hI.2 with h | ⟨b, off, hp, hl, hcell⟩
    ·subst h; simp at hj
    ·cases hp
     rw [Go.WideShapes.add_plain, hcell j hj]; rw [List.getElem?_map, List.getElem?_eq_getElem hj] at hu; rw [List.getD_eq_getElem?_getD, List.getElem?_eq_getElem hj]
     simpa using hu
   refine wpList_append_own _ hgd s x TS ho w.heap.size T i0 (I O 0) 1 8 ht hi hz0 hz1 hz2 rfl (by decide) (.slice none 0 0) 0 [] hs (World.ownsRow_nil w _ T 1) ad xs.length cap (xs.map (Value.int .i64)) hx (by simp) hc (by simp [Value.oneCell']) (by unfold maxLen; omega) (by omega) mle ?_
   intro v' w' h1 h2 _; refine h v' w' ?_ ?_
   ·unfold Own
    simpa using h1
   ·exact ((brf _ w).grown h2 mle fun k hk => by cases hk)
def sumVal (xs : List Int) : Int := if Ce.sumErr xs = 0 then Sh.sum xs else 0
theorem sumErr_odd {xs : List Int} {k : Nat} (hk : k < xs.length) {x : Int} (hx : xs.getD k 0 = x) (h : En.money x = false) : Ce.sumErr xs = 67 := by
 unfold Ce.sumErr; rw [if_pos]
 left
 rw [List.any_eq_true]; refine ⟨x, ?_, by rw [h]; rfl⟩; rw [← hx, List.getD_eq_getElem?_getD, List.getElem?_eq_getElem hk]; exact List.getElem_mem hk
theorem sumErr_of {xs : List Int} (h : ∀ j, j < xs.length → En.money (xs.getD j 0) = true) : (En.money (Sh.sum xs) = true → Ce.sumErr xs = 0) ∧ (En.money (Sh.sum xs) = false → Ce.sumErr xs = 67) := by
 have h4 : (xs.any fun x => !En.money x) = false := by
  rw [List.any_eq_false]; intro x hx; obtain ⟨j, hj, rfl⟩ := List.getElem_of_mem hx; have := h j hj; rw [List.getD_eq_getElem?_getD, List.getElem?_eq_getElem hj] at this; have e : En.money xs[j] = true := this; rw [e]
  simp
 unfold Ce.sumErr; rw [h4]; refine ⟨fun h => ?_, fun h => ?_⟩
 ·rw [h]; simp
 ·rw [h]; simp
theorem sum_pre {xs : List Int} {k : Nat} (hk : k ≤ xs.length) (h16 : xs.length ≤ 16) (h : ∀ j, j < k → En.money (xs.getD j 0) = true) : 0 ≤ Sh.sum (xs.take k) ∧ Sh.sum (xs.take k) ≤ 1099511627776 := by
 have hx : ∀ x ∈ xs.take k, 0 ≤ x ∧ x ≤ 68719476736 := fun x hx => by
  obtain ⟨j, hj, rfl⟩ := List.getElem_of_mem hx; rw [List.length_take] at hj; have := h j (by omega); rw [List.getD_eq_getElem?_getD, List.getElem?_eq_getElem (by omega)] at this; rw [List.getElem_take]; exact En.money_iff.1 this
 refine ⟨Sh.sum_nonneg fun x m => (hx x m).1, ?_⟩
 have := Sh.sum_le_len fun x m => (hx x m).2
 have hl : (xs.take k).length ≤ xs.length := List.length_take_le' _ _; omega
theorem csum_any (p : Option Addr) (xs : List Int) (cap : Nat) (w : World) (h : Ints w p xs) (h16 : xs.length ≤ 16) :
  Calls Tryz.prog 157 #[.slice p xs.length cap] w fun e w' => e = .returned (.tuple #[I O (sumVal xs), I O (Ce.sumErr xs)]) ∧ w = w' := by
 have H := mh h; clear h
 go_enter Tryz.func157, Tryz.ntmps157
 go_wp2
 go_loop [9, 4] (fun i s => ∃ k : Nat, k ≤ xs.length ∧ i = I O k ∧ s = I O (Sh.sum (xs.take k)) ∧ ∀ j, j < k → En.money (xs.getD j 0) = true) (fun i _ => xs.length - (intOf i).toNat)
 case atStart => exact ⟨0, Nat.zero_le _, rfl, by simp [Sh.sum], fun j hj => absurd hj (Nat.not_lt_zero j)⟩
 case round =>
  obtain ⟨k, hk, rfl, rfl, hok⟩ := hrel; have HOK := mh hok; have hs := sum_pre hk h16 hok; clear hok
  by_cases hlt : k < xs.length
  ·obtain ⟨b, off, x, rfl, hbl, hcell, hx⟩ := H.out.get hlt
   by_cases hm : En.money x = true
   ·have m := En.money_iff.1 hm
    have hst := mh (sum_take_succ hlt); have hok' : ∀ j, j < k + 1 → En.money (xs.getD j 0) = true := fun j hj => by
     by_cases e : j = k
     ·rw [e, hx.out]; exact hm
     ·exact HOK.out j (by omega)
    have HOK' := mh hok'; clear hok'
    go_wp2_with (first | (go_at_call 99; refine (money_any _ _).mono ?_; rintro e w' ⟨rfl, rfl⟩))
    go_round
    case rel => exact ⟨k + 1, by omega, by go_num, by rw [hst.out, hx.out], HOK'.out⟩
    case measure => simp [intOf]; omega
   ·have hm' : En.money x = false := by simpa using hm
    have he := sumErr_odd hlt hx.out hm'; have hv : sumVal xs = 0 := by unfold sumVal; rw [if_neg (by rw [he]; decide)]
    have HE := mh (And.intro hv he); clear he hv hm
    go_wp2_with (first | (go_at_call 99; refine (money_any _ _).mono ?_; rintro e w' ⟨rfl, rfl⟩))
    go_ret2
    exact ⟨by rw [HE.out.1, HE.out.2]; rfl, rfl⟩
  ·obtain rfl : k = xs.length := by omega
   obtain ⟨h1, h2⟩ := sumErr_of HOK.out; rw [List.take_length] at hs; rw [List.take_length]
   cases hm : En.money (Sh.sum xs)
   ·have he := h2 hm
    have hv : sumVal xs = 0 := by unfold sumVal; rw [if_neg (by rw [he]; decide)]
    have HE := mh (And.intro hv he); clear h1 h2 he hv hlt hk
    go_wp2_with (first | (go_at_call 99; refine (money_any _ _).mono ?_; rintro e w' ⟨rfl, rfl⟩))
    go_ret2
    exact ⟨by rw [HE.out.1, HE.out.2]; rfl, rfl⟩
   ·have he := h1 hm
    have hv : sumVal xs = Sh.sum xs := by unfold sumVal; rw [if_pos he]
    have HE := mh (And.intro hv he); clear h1 h2 he hv hlt hk
    go_wp2_with (first | (go_at_call 99; refine (money_any _ _).mono ?_; rintro e w' ⟨rfl, rfl⟩))
    go_ret2
    exact ⟨by rw [HE.out.1, HE.out.2]; rfl, rfl⟩
theorem farm_cases (D : List (Int × Int)) (m : Int) (xs : List Int) :
  (¬ Ce.Right D ∧ Ce.chk D = 66 ∧ Ce.farmErr D m xs = 66) ∨ (Ce.chk D = 0 ∧ En.money m = false ∧ Ce.farmErr D m xs = 67) ∨ (Ce.chk D = 0 ∧ En.money m = true ∧ 16 < xs.length ∧ Ce.farmErr D m xs = 1) ∨
  (Ce.chk D = 0 ∧ En.money m = true ∧ xs.length ≤ 16 ∧ Ce.sumErr xs = 67 ∧ Ce.farmErr D m xs = 67) ∨ (Ce.chk D = 0 ∧ En.money m = true ∧ Ce.Fine D m xs) := by
 by_cases h1 : Ce.Right D
 ·have c := Ce.chk_zero.2 h1
  cases h2 : En.money m
  ·exact .inr (.inl ⟨c, rfl, by unfold Ce.farmErr; rw [if_neg (by rw [c]; simp), if_pos h2]⟩)
  ·by_cases h3 : 16 < xs.length
   ·exact .inr (.inr (.inl ⟨c, rfl, h3, by unfold Ce.farmErr; rw [if_neg (by rw [c]; simp), if_neg (by rw [h2]; simp), if_pos h3]⟩))
   ·have e : Ce.farmErr D m xs = Ce.sumErr xs := by unfold Ce.farmErr; rw [if_neg (by rw [c]; simp), if_neg (by rw [h2]; simp), if_neg h3]
    by_cases h4 : Ce.sumErr xs = 0
    ·exact .inr (.inr (.inr (.inr ⟨c, rfl, Ce.fine_of (by rw [e, h4])⟩)))
    ·have h5 : Ce.sumErr xs = 67 := by unfold Ce.sumErr at h4 ⊢; split at h4 <;> simp_all
     exact .inr (.inr (.inr (.inl ⟨c, rfl, by omega, h5, by rw [e, h5]⟩)))
 ·have c := Ce.chk_not h1
  exact .inl ⟨h1, c, by unfold Ce.farmErr; rw [if_pos (by rw [c]; decide)]⟩
theorem farm_bad {D : List (Int × Int)} {m : Int} {xs : List Int} {r : Int} (h : Ce.farmErr D m xs = r) (hr : r ≠ 0) : Ce.farm D m xs = [] := by
 unfold Ce.farm; rw [if_pos (by rw [h]; exact hr)]
theorem farm_new (p : Option Addr) (D : List (Int × Int)) (cap : Nat) (m : Int) (q : Option Addr) (xs : List Int) (capx : Nat) (w : World) (hP : Pairs w p D) (hI : Ints w q xs) :
  Calls Tryz.prog 112 #[.slice p D.length cap, I O m, .slice q xs.length capx] w (GivesNew w (Ce.farm D m xs) (Ce.farmErr D m xs)) := by
 have hc := check_any p D cap w hP; have hlen := hI.len
 rcases farm_cases D m xs with ⟨_, c, e⟩ | ⟨c, hm, e⟩ | ⟨c, hm, h16, e⟩ | ⟨c, hm, h16, hs, e⟩ | ⟨c, hm, hF⟩
 ·rw [c] at hc
  rw [e, farm_bad e (by decide)]; have HC := mh hc; clear hP hI hc c e
  go_enter Tryz.func112, Tryz.ntmps112
  go_wp2_with (first | (go_at_call 61; refine (HC.out).mono ?_; rintro e w1 ⟨rfl, hb1⟩))
  go_ret2
  exact ⟨none, 0, rfl, Ints.nil _ _, hb1, fun _ h => by cases h⟩
 ·rw [c] at hc
  rw [e, farm_bad e (by decide)]; have HC := mh hc; clear hP hI hc c e
  go_enter Tryz.func112, Tryz.ntmps112
  go_wp2_with (first | (go_at_call 61; refine (HC.out).mono ?_; rintro e w1 ⟨rfl, hb1⟩) | (go_at_call 99; refine (money_any _ _).mono ?_; rintro e w' ⟨rfl, rfl⟩))
  go_ret2
  exact ⟨none, 0, rfl, Ints.nil _ _, hb1, fun _ h => by cases h⟩
 ·rw [c] at hc
  rw [e, farm_bad e (by decide)]; have HC := mh hc; clear hP hI hc c e
  go_enter Tryz.func112, Tryz.ntmps112
  go_wp2_with (first | (go_at_call 61; refine (HC.out).mono ?_; rintro e w1 ⟨rfl, hb1⟩) | (go_at_call 99; refine (money_any _ _).mono ?_; rintro e w' ⟨rfl, rfl⟩))
  go_ret2
  exact ⟨none, 0, rfl, Ints.nil _ _, hb1, fun _ h => by cases h⟩
 ·rw [c] at hc
  rw [e, farm_bad e (by decide)]; have hsu := fun (W : World) (h : Ints W q xs) => csum_any q xs capx W h h16
  rw [hs] at hsu; have HSU := mh hsu; have HC := mh hc; have HI := mh hI; clear hP hI hc c e hsu hs
  go_enter Tryz.func112, Tryz.ntmps112
  go_wp2_with (first | (go_at_call 61; refine (HC.out).mono ?_; rintro e w1 ⟨rfl, hb1⟩) | (go_at_call 99; refine (money_any _ _).mono ?_; rintro e w' ⟨rfl, rfl⟩) | (go_at_call 157; refine (HSU.out _ (HI.out.below hb1)).mono ?_; rintro e w' ⟨rfl, rfl⟩))
  go_ret2
  exact ⟨none, 0, rfl, Ints.nil _ _, hb1, fun _ h => by cases h⟩
 ·rw [c] at hc
  have F := mh hF; have h16 := hF.len; have hs0 := hF.sum0; have hs1 := hF.sum; have hsu := fun (W : World) (h : Ints W q xs) => csum_any q xs capx W h h16
  rw [hF.sumErr, show sumVal xs = Sh.sum xs by unfold sumVal; rw [if_pos hF.sumErr]] at hsu; have hr := fun (W : World) (h : Pairs W p D) => reduced_any p D cap (Sh.sum xs) W h hF.right hs0 hs1
  rw [hF.err]; have hleft : Ce.farmLeft D m xs = min m (Ce.red D (Sh.sum xs)) := rfl; have HSU := mh hsu; have HR := mh hr; have HC := mh hc; have HI := mh hI; have HP := mh hP
  by_cases heq : Ce.farmLeft D m xs = Sh.sum xs
  ·rw [hF.same heq]
   rw [hleft] at heq; have hbq : (Sh.sum xs == Sh.sum xs) = true := by simp
   obtain ⟨i0, hi, hz0, hz1, hz2⟩ := info_parts info_int; have HIN := mh (And.intro hi (And.intro hz0 (And.intro hz1 hz2))); clear hP hI hc c hsu hr hF hleft hi hz0 hz1 hz2
   go_enter Tryz.func112, Tryz.ntmps112
   go_wp2_with (first | (go_at_call 61; refine (HC.out).mono ?_; rintro e w1 ⟨rfl, hb1⟩) | (go_at_call 99; refine (money_any _ _).mono ?_; rintro e w' ⟨rfl, rfl⟩) | (go_at_call 157; refine (HSU.out _ (HI.out.below hb1)).mono ?_; rintro e w' ⟨rfl, rfl⟩) | (go_at_call 158; refine (HR.out _ (HP.out.below hb1)).mono ?_; rintro e w2 ⟨rfl, hb2⟩) | (at_builtin; (refine Own.copyOf HIN.out.1 HIN.out.2.1 HIN.out.2.2.1 HIN.out.2.2.2 Tryz.underlying22 rfl (.const (.slice none 0 0)) (.tmp 41) rfl xs q capx ((HI.out.below hb1).below hb2) rfl rfl (by omega) ?_); intro v3 w3 hown3 hb3))
   obtain ⟨p3, c3, rfl, hI3, hn3⟩ := hown3.intsN
   go_ret2
   exact ⟨p3, c3, rfl, hI3, bnext (bnext hb1 hb1.size hb2) (Nat.le_trans hb1.size hb2.size) hb3, fun a h => Nat.le_trans (Nat.le_trans hb1.size hb2.size) (hn3 a h)⟩
  ·have hfa : Ce.farm D m xs = shList (Ce.farmLeft D m xs) xs := by unfold Ce.farm; rw [if_neg (by rw [hF.err]; simp), if_neg heq]
   have hsh := fun (W : World) (h : Ints W q xs) => shares_new (Ce.farmLeft D m xs) q xs capx W h
   rw [hF.shErr] at hsh; rw [hfa]; rw [hleft] at heq hsh ⊢; have hbq : (min m (Ce.red D (Sh.sum xs)) == Sh.sum xs) = false := by simpa using heq
   have HSH := mh hsh; clear hP hI hc c hsu hr hF hleft hfa hsh heq
   go_enter Tryz.func112, Tryz.ntmps112
   go_wp2_with (first | (go_at_call 61; refine (HC.out).mono ?_; rintro e w1 ⟨rfl, hb1⟩) | (go_at_call 99; refine (money_any _ _).mono ?_; rintro e w' ⟨rfl, rfl⟩) | (go_at_call 157; refine (HSU.out _ (HI.out.below hb1)).mono ?_; rintro e w' ⟨rfl, rfl⟩) | (go_at_call 158; refine (HR.out _ (HP.out.below hb1)).mono ?_; rintro e w2 ⟨rfl, hb2⟩) | (go_at_call 107; refine (HSH.out _ ((HI.out.below hb1).below hb2)).mono ?_; rintro e w3 ⟨p3, c3, rfl, hI3, hb3, hn3⟩))
   go_ret2
   exact ⟨p3, c3, rfl, hI3, bnext (bnext hb1 hb1.size hb2) (Nat.le_trans hb1.size hb2.size) hb3, fun a h => Nat.le_trans (Nat.le_trans hb1.size hb2.size) (hn3 a h)⟩
end Go.Proofs.YtmlfcpglhipjgaaGreat
