/-
  THE WALKS over the example of chapter 29 and the law ReductionDoubles.
-/
import Derived.Test.YtmgdbbmheiligaaRd
import Derived.Test.YtmgdbbmheiligaaDt
import Derived.Test.YtmgdbbmheiligaaI4
import Derived.Test.YtmgdbbmheiligaaBd
namespace Go.Proofs.Ytmgdbbmheiligaa
open Go.RowKit

theorem Pairs.lit2 (w : World) (T : TypeId) (D : List (Int × Int)) (hl : D.length ≤ maxLen) : Pairs (w.alloc (.cells (pcells D).toArray T)) (some ⟨w.heap.size, 0, none⟩) D := by
  refine ⟨hl, .inr ⟨_, 0, rfl, by simp, fun j hj => ?_⟩⟩
  have hp := pcells_at D j hj
  rw [Nat.zero_add, World.cell?_alloc_new, World.cell?_alloc_new]
  simpa using hp

theorem ex29a : Re.chk [(30, 2), (200, -1)] = 0 ∧ Re.paidErr [(30, 2), (200, -1)] 110 100 = 0 ∧ Re.paidVal [(30, 2), (200, -1)] 110 100 = 80 ∧ Re.paidErr [(30, 2), (200, -1)] 125 100 = 0 ∧ Re.paidVal [(30, 2), (200, -1)] 125 100 = 0 ∧ Re.stepV [(30, 2), (200, -1)] 110 100 = 0 ∧ Ex.down 3 2 = 1 := by decide +kernel

theorem ex29b : shList (Re.paid [(30, 2), (200, -1)] (Sh.sum [60, 50]) (Sh.sum (wk [60, 50] [50, 50] 2))) (wk [60, 50] [50, 50] 2) = [40, 40] := by
  have h1 : Re.paid [(30, 2), (200, -1)] (Sh.sum [60, 50]) (Sh.sum (wk [60, 50] [50, 50] 2)) = 80 := by decide +kernel
  have h2 : wk [60, 50] [50, 50] 2 = [50, 50] := by decide +kernel
  have ho : Sh.order 2 (Sh.rest 80 [50, 50]) = [0, 1] := Sh.order_unique (by decide) (by decide +kernel)
  rw [h1, h2]
  unfold shList
  rw [if_neg (by decide +kernel), if_neg (by decide +kernel)]
  unfold Sh.shares Sh.share Sh.top
  simp only [List.length_cons, List.length_nil, Nat.zero_add, Nat.reduceAdd]
  rw [ho]
  decide +kernel

set_option maxRecDepth 100000 in
set_option maxHeartbeats 2000000 in
theorem awake29_any (w : World) : Calls Try.prog 43 #[] w fun e w' => e = .returned (.bool true) ∧ Below w.heap.size w w' := by
  have hP : Pairs (w.alloc (.cells #[.int .i64 30, .int .i64 2, .int .i64 200, .int .i64 (-1)] 67)) (some ⟨w.heap.size, 0, none⟩) [(30, 2), (200, -1)] := Pairs.lit2 w _ [(30, 2), (200, -1)] (by unfold maxLen; decide)
  have hA : ∀ (W : World), Ints (W.alloc (.cells #[.int .i64 60, .int .i64 50] 3)) (some ⟨W.heap.size, 0, none⟩) [60, 50] := fun W => Ints.lit W _ [60, 50] (by unfold maxLen; decide)
  have hB : ∀ (W : World) (o : Obj), Ints ((W.alloc o).alloc (.cells #[.int .i64 50, .int .i64 50] 3)) (some ⟨W.heap.size + 1, 0, none⟩) [50, 50] := fun W o => by
    have := Ints.lit (W.alloc o) 3 [50, 50] (by unfold maxLen; decide)
    rw [World.size_alloc] at this
    exact this
  obtain ⟨x1, x2, x3, x4, x5, x6, x7⟩ := ex29a
  have hR := Re.chk_zero.1 x1
  have h1 := fun (W : World) (h : Pairs W (some ⟨w.heap.size, 0, none⟩) [(30, 2), (200, -1)]) => paid_any (some ⟨w.heap.size, 0, none⟩) [(30, 2), (200, -1)] 2 110 100 W h
  rw [x2, x3] at h1
  have h2 := fun (W : World) (h : Pairs W (some ⟨w.heap.size, 0, none⟩) [(30, 2), (200, -1)]) => paid_any (some ⟨w.heap.size, 0, none⟩) [(30, 2), (200, -1)] 2 125 100 W h
  rw [x4, x5] at h2
  have h3 := fun (W : World) (h : Pairs W (some ⟨w.heap.size, 0, none⟩) [(30, 2), (200, -1)]) => rgroup_good (some ⟨w.heap.size, 0, none⟩) [(30, 2), (200, -1)] 2 (some ⟨W.heap.size, 0, none⟩) [60, 50] 2 (some ⟨W.heap.size + 1, 0, none⟩) [50, 50] 2 ((W.alloc (.cells #[.int .i64 60, .int .i64 50] 3)).alloc (.cells #[.int .i64 50, .int .i64 50] 3))
    (h.below (((Below.refl _ _).alloc (Nat.le_refl _) _).alloc (by simp) _)) ((hA W).below ((Below.refl _ _).alloc (Nat.le_refl _) _)) (hB W _) hR rfl (by decide) (fun x hx => by simp only [List.mem_cons, List.not_mem_nil, or_false] at hx; omega) (fun x hx => by simp only [List.mem_cons, List.not_mem_nil, or_false] at hx; omega) (by decide)
  have e2 : ([60, 50] : List Int).length = 2 := rfl
  simp only [e2] at h3
  rw [ex29b] at h3
  have h4 := fun (W : World) (h : Pairs W (some ⟨w.heap.size, 0, none⟩) [(30, 2), (200, -1)]) => rcheck_any (some ⟨w.heap.size, 0, none⟩) [(30, 2), (200, -1)] 2 W h
  rw [x1] at h4
  have h6 := fun (W : World) (h : Pairs W (some ⟨w.heap.size, 0, none⟩) [(30, 2), (200, -1)]) => Rstep_any (some ⟨w.heap.size, 0, none⟩) [(30, 2), (200, -1)] 2 110 100 W h
  rw [x6] at h6
  have h5 := fun (w : World) p cap (hl : Ints w p [40, 40]) => refints24_any p (some ⟨w.heap.size, 0, none⟩) [40, 40] [40, 40] cap 2 (w.alloc (.cells #[.int .i64 40, .int .i64 40] 3)) (hl.below ((Below.refl _ _).alloc (Nat.le_refl _) _)) (Ints.lit w _ [40, 40] (by unfold maxLen; decide))
  rw [decide_eq_true (rfl : ([40, 40] : List Int) = [40, 40])] at h5
  have h7 := fun w => down_any 3 2 w
  rw [x7] at h7
  have H1 := Lib.hid h1
  have H2 := Lib.hid h2
  have H3 := Lib.hid h3
  have H4 := Lib.hid h4
  have H5 := Lib.hid h5
  have H6 := Lib.hid h6
  have H7 := Lib.hid h7
  have HP := Lib.hid hP
  clear h1 h2 h3 h4 h5 h6 h7 hP hA hB x1 x2 x3 x4 x5 x6 x7 hR e2
  go_enter Try.func43, Try.ntmps43
  go_wp2_with (first | (go_at_call 48; first | (with_reducible refine Calls.mono (H1.out _ HP.out) ?_; rintro e w1 ⟨rfl, hb1⟩; have P1 := HP.out.below hb1) | (with_reducible refine Calls.mono (H2.out _ P1) ?_; rintro e w2 ⟨rfl, hb2⟩; have P2 := P1.below hb2)) | (go_at_call 52; refine (H3.out _ P2).mono ?_; rintro e w3 ⟨p, cap, rfl, hl, hb3⟩) | (go_at_call 46; refine (H4.out _ ((P2.below (((Below.refl _ _).alloc (Nat.le_refl _) (.cells #[.int .i64 60, .int .i64 50] 3)).alloc (by simp) (.cells #[.int .i64 50, .int .i64 50] 3))).below hb3)).mono ?_; rintro e w4 ⟨rfl, hb4⟩) | (go_at_call 50; refine (H6.out _ (((P2.below (((Below.refl _ _).alloc (Nat.le_refl _) (.cells #[.int .i64 60, .int .i64 50] 3)).alloc (by simp) (.cells #[.int .i64 50, .int .i64 50] 3))).below hb3).below hb4)).mono ?_; rintro e w5 ⟨rfl, hb5⟩) | (go_at_call 42; refine (H5.out _ _ _ ((hl.below hb4).below hb5)).mono ?_; rintro e w6 ⟨rfl, n, rfl⟩) | (go_at_call 22; refine (H7.out _).mono ?_; rintro e w' ⟨rfl, rfl⟩))
  go_ret
  have le := Nat.le_refl w.heap.size
  exact ⟨rfl, bstep le (balloc le (bstep le (bstep le (bstep le (balloc le (balloc le (bstep le (bstep le (balloc le (Below.refl _ _) _) hb1) hb2) _) _) hb3) hb4) hb5) _) (drewN_below _ n)⟩

theorem tmod_u8' {x n : Int} (h : 0 ≤ x) (hn : 0 < n) : x.tmod n = x % n ∧ 0 ≤ x % n ∧ x % n < n :=
  ⟨Int.tmod_eq_emod_of_nonneg h, Int.emod_nonneg _ (by omega), Int.emod_lt_of_pos _ hn⟩

theorem paid_fine {D : List (Int × Int)} {d f : Int} (hR : Re.Right D) (d0 : 0 ≤ d ∧ d ≤ 268435456) (f0 : 0 ≤ f ∧ f ≤ 268435456) (p : Option Addr) (cap : Nat) (w : World) (h : Pairs w p D) :
    Calls Try.prog 48 #[.slice p D.length cap, .int .i64 d, .int .i64 f] w fun e w' => e = .returned (.tuple #[.int .i64 (Re.paid D d f), .int .i64 0]) ∧ Below w.heap.size w w' := by
  have he : Re.paidErr D d f = 0 := by unfold Re.paidErr; rw [if_neg (by rw [Re.chk_zero.2 hR]; simp), if_neg]; rw [Re.area_iff.2 d0, Re.area_iff.2 f0]; simp
  have hv : Re.paidVal D d f = Re.paid D d f := by unfold Re.paidVal; rw [if_neg (by rw [he]; simp)]
  have := paid_any p D cap d f w h
  rw [he, hv] at this
  exact this

theorem Step_fine {D : List (Int × Int)} {d f : Int} (hR : Re.Right D) (d0 : 0 ≤ d ∧ d ≤ 268435456) (f0 : 0 ≤ f ∧ f ≤ 268435456) (p : Option Addr) (cap : Nat) (w : World) (h : Pairs w p D) :
    Calls Try.prog 50 #[.slice p D.length cap, .int .i64 d, .int .i64 f] w fun e w' => e = .returned (.int .i64 (Re.step D d f)) ∧ Below w.heap.size w w' := by
  have hv : Re.stepV D d f = Re.step D d f := by unfold Re.stepV; rw [if_neg]; rw [Re.chk_zero.2 hR, Re.area_iff.2 d0, Re.area_iff.2 f0]; simp
  have := Rstep_any p D cap d f w h
  rw [hv] at this
  exact this

set_option maxRecDepth 100000 in
set_option maxHeartbeats 4000000 in
theorem reductionDoubles_walk (a : Option Addr) (len cap : Nat) (z : List Int) (v : Int) (w : World) (w0 : IsRow .i64 w a len cap z) (w1 : (Lit.int .u8 v).wf = true) :
    Calls Try.prog 14 #[.slice a len cap, .int .u8 v] w fun e w' => e = .returned (.bool true) ∧ Below w.heap.size w w' := by
  obtain ⟨v0, v1⟩ := bd_u8 w1
  have HN := Lib.hid (new_any a len cap z w w0)
  clear w0 w1
  generalize (z.take len).take 400 = l at *
  obtain ⟨hm, m0, m1⟩ := tmod_u8' v0 (n := 9) (by omega)
  generalize v % 9 = m at *
  have HD := Lib.hid (fun (W : World) (h : TapeAt W w.heap.size l 0) => steps_any w.heap.size l 0 W h)
  have HX := Lib.hid (fun (W : World) (q : Nat) (n : Int) (h : TapeAt W w.heap.size l q) (hn : n ≤ 9223372036854775807) => next_any w.heap.size l q n W h hn)
  go_enter Try.func14, Try.ntmps14
  go_wp2_with (first | (go_at_call 16; refine (HN.out).mono ?_; rintro e w1 ⟨rfl, ht, hb1⟩) | (go_at_call 44; refine (HD.out _ ht).mono ?_; rintro e w2 ⟨p, cp, D, q0, rfl, hO, hRt, ht2, hb2⟩; obtain ⟨d, ed⟩ : ∃ g, gives l q0 400 = g := ⟨_, rfl⟩; obtain ⟨d0, d1⟩ := gives_bd l q0 (n := 400) (by omega); rw [ed] at d0 d1; have N1 := Lib.hid (ed ▸ HX.out w2 q0 400 ht2 (by omega)); clear ed) | (go_at_call 17; first | (with_reducible refine Calls.mono N1.out ?_; rintro e w3 ⟨rfl, ht3, hb3⟩; obtain ⟨f, ef⟩ : ∃ g, gives l (taken l q0) (d + 10) = g := ⟨_, rfl⟩; obtain ⟨f0, f1⟩ := gives_bd l (taken l q0) (n := d + 10) (by omega); rw [ef] at f0 f1; have N2 := Lib.hid (ef ▸ HX.out w3 _ (d + 10) ht3 (by omega)); clear ef) | (with_reducible refine Calls.mono N2.out ?_; rintro e w4 ⟨rfl, ht4, hb4⟩)))
  have hl0 := ht.lt
  have hP := (hO.butB hl0 (hb3.trans hb4)).pairs_at2
  have BEL := Lib.hid (hb1.trans (((hb2.trans hb3).trans hb4).below (Nat.le_refl _) hb1.size))
  have p0 : 0 ≤ (1 + m) * d ∧ (1 + m) * d ≤ 9 * 400 := ⟨Int.mul_nonneg (by omega) d0, Int.mul_le_mul (by omega) (by omega) d0 (by omega)⟩
  have q0' : 0 ≤ (1 + m) * f ∧ (1 + m) * f ≤ 9 * 410 := ⟨Int.mul_nonneg (by omega) f0, Int.mul_le_mul (by omega) (by omega) f0 (by omega)⟩
  have hpd := hRt.paid_bd d0 f0
  have ht1 := Re.paid_times (l := D) (d := d) (f := f) (k := 1 + m) (by omega)
  have ht2' := Re.step_times (l := D) (d := d) (f := f) (k := 1 + m) (by omega)
  have r0 : 0 ≤ (1 + m) * Re.paid D d f ∧ (1 + m) * Re.paid D d f ≤ 9 * 400 := ⟨Int.mul_nonneg (by omega) hpd.1, Int.mul_le_mul (by omega) (by omega) hpd.1 (by omega)⟩
  obtain ⟨X, hX⟩ : ∃ X, (1 + m) * d = X := ⟨_, rfl⟩
  obtain ⟨Y, hY⟩ : ∃ Y, (1 + m) * f = Y := ⟨_, rfl⟩
  obtain ⟨Z, hZ⟩ : ∃ Z, (1 + m) * Re.paid D d f = Z := ⟨_, rfl⟩
  rw [hX] at p0 ht1 ht2'
  rw [hY] at q0' ht1 ht2'
  rw [hZ] at r0 ht1
  have hwX : IntKind.i64.wrap ((1 + m) * d) = X := by rw [hX, IntKind.wrap_i64]; omega
  have hwY : IntKind.i64.wrap ((1 + m) * f) = Y := by rw [hY, IntKind.wrap_i64]; omega
  have hwZ : IntKind.i64.wrap ((1 + m) * Re.paid D d f) = Z := by rw [hZ, IntKind.wrap_i64]; omega
  have C1 := Lib.hid (paid_fine hRt (show 0 ≤ d ∧ d ≤ 268435456 by omega) (show 0 ≤ f ∧ f ≤ 268435456 by omega) p cp w4 hP)
  have c2 := fun (W : World) (h : Pairs W p D) => paid_fine hRt (show 0 ≤ X ∧ X ≤ 268435456 by omega) (show 0 ≤ Y ∧ Y ≤ 268435456 by omega) p cp W h
  rw [ht1] at c2
  have C2 := Lib.hid c2
  have C3 := Lib.hid (fun (W : World) (h : Pairs W p D) => Step_fine hRt (show 0 ≤ d ∧ d ≤ 268435456 by omega) (show 0 ≤ f ∧ f ≤ 268435456 by omega) p cp W h)
  have c4 := fun (W : World) (h : Pairs W p D) => Step_fine hRt (show 0 ≤ X ∧ X ≤ 268435456 by omega) (show 0 ≤ Y ∧ Y ≤ 268435456 by omega) p cp W h
  rw [ht2'] at c4
  have C4 := Lib.hid c4
  have P4 := Lib.hid hP
  clear c2 c4 ht1 ht2' hX hY hZ hP hO hRt ht ht2 ht3 ht4 hb1 hb2 hb3 hb4 HN HD HX N1 N2 hpd
  go_wp2_with (first | (go_at_call 48; first | (with_reducible refine Calls.mono C1.out ?_; rintro e w5 ⟨rfl, hb5⟩; have P5 := P4.out.below hb5) | (with_reducible refine Calls.mono (C2.out _ P5) ?_; rintro e w6 ⟨rfl, hb6⟩; have P6 := P5.below hb6)) | (go_at_call 50; first | (with_reducible refine Calls.mono (C3.out _ P6) ?_; rintro e w7 ⟨rfl, hb7⟩; have P7 := P6.below hb7) | (with_reducible refine Calls.mono (C4.out _ P7) ?_; rintro e w8 ⟨rfl, hb8⟩)) | (go_at_call 43; refine (awake29_any _).mono ?_; rintro e w9 ⟨rfl, hb9⟩))
  go_ret
  have le := Nat.le_refl w.heap.size
  exact ⟨rfl, bstep le (bstep le (bstep le (bstep le (bstep le BEL.out hb5) hb6) hb7) hb8) hb9⟩

end Go.Proofs.Ytmgdbbmheiligaa
