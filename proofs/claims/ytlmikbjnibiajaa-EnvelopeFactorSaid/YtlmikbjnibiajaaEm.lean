/-
  THE WALKS over the laws EnvelopeEnough, EnvelopeFactor, EnvelopeGrows.
-/
import Derived.Test.YtlmikbjnibiajaaEk
import Derived.Test.YtlmikbjnibiajaaBd
namespace Go.Proofs.Ytlmikbjnibiajaa
open Go.RowKit

theorem tmod_u8 {x n : Int} (h : 0 ≤ x) (hn : 0 < n) : x.tmod n = x % n ∧ 0 ≤ x % n ∧ x % n < n :=
  ⟨Int.tmod_eq_emod_of_nonneg h, Int.emod_nonneg _ (by omega), Int.emod_lt_of_pos _ hn⟩

theorem scale_fine {e u : Int} {l : List Int} (hG : En.Good e u l) (p : Option Addr) (cap : Nat) (w : World) (h : Ints w p l) :
    Calls Try.prog 35 #[.int .i64 e, .int .i64 u, .slice p l.length cap] w (GivesInts w (En.scale e u l) 0) := scale_good e u p l cap w h (En.err_of hG)

set_option maxRecDepth 100000 in
set_option maxHeartbeats 4000000 in
theorem envelopeEnough_walk (a : Option Addr) (len cap : Nat) (z : List Int) (v : Int) (w : World) (w0 : IsRow .i64 w a len cap z) (w1 : (Lit.int .u8 v).wf = true) :
    Calls Try.prog 10 #[.slice a len cap, .int .u8 v] w fun e w' => e = .returned (.bool true) ∧ Below w.heap.size w w' := by
  obtain ⟨x1, x2⟩ := bd_u8 w1
  have HN := Lib.hid (new_any a len cap z w w0)
  clear w0 w1
  generalize (z.take len).take 400 = l at *
  obtain ⟨hm, m1, m2⟩ := tmod_u8 x1 (n := 120) (by omega)
  generalize v % 120 = m at *
  have hG := Lib.hid (amountsL_good l 0 (e := 60000) (u := 1 + m) (by omega) (by omega) (by omega) (by omega))
  have HB := Lib.hid (amountsL_bd l 0)
  obtain ⟨k1, k2, k3⟩ := hG.out.enough (by have := amountsL_sum l 0; omega)
  have hSL := hG.out.scale_len
  have hf := fun p cap (W : World) (h : Ints W p (amountsL l 0)) => factor_any 60000 (1 + m) p (amountsL l 0) cap W h
  rw [k2, En.err_of hG.out] at hf
  have HF := Lib.hid hf
  have hs := fun p cap (W : World) (h : Ints W p (amountsL l 0)) => scaled_any 60000 (1 + m) p (amountsL l 0) cap W h
  rw [k1] at hs
  have HS := Lib.hid hs
  have HC := Lib.hid (fun p cap (W : World) (h : Ints W p (amountsL l 0)) => scale_fine hG.out p cap W h)
  have HA := Lib.hid (fun (W : World) (h : TapeAt W w.heap.size l 0) => amounts_any w.heap.size l 0 W h)
  have HK := Lib.hid k3
  have HSL := Lib.hid hSL
  have hL7 := HB.out.1
  have hSB : ((En.scale 60000 (1 + m) (amountsL l 0)).length : Int) = ((amountsL l 0).length : Int) := by rw [hSL]
  clear k1 k2 k3 hf hs hSL hG
  generalize En.scale 60000 (1 + m) (amountsL l 0) = S at *
  have hnB : ((S.length : Int) != ((amountsL l 0).length : Int)) = false := by rw [hSB]; simp
  go_enter Try.func10, Try.ntmps10
  go_wp2_with (first | (go_at_call 21; refine (HN.out).mono ?_; rintro e w1 ⟨rfl, ht, hb1⟩) | (go_at_call 34; refine (HA.out _ ht).mono ?_; rintro e w2 ⟨p, cp, rfl, hA, hb2⟩) | (go_at_call 35; refine (HC.out _ _ _ hA).mono ?_; rintro e w3 ⟨q, cq, rfl, hQ, hb3⟩) | (go_at_call 37; refine (HF.out _ _ _ (hA.below hb3)).mono ?_; rintro e w4 ⟨rfl, hb4⟩) | (go_at_call 40; refine (HS.out _ _ _ ((hA.below hb3).below hb4)).mono ?_; rintro e w5 ⟨rfl, hb5⟩))
  have QL := Lib.hid (((hA.below hb3).below hb4).below hb5)
  have QS := Lib.hid ((hQ.below hb4).below hb5)
  have BEL := Lib.hid (bnext (bnext (bnext (hb1.trans hb2) (Nat.le_trans hb1.size hb2.size) hb3) (Nat.le_trans (Nat.le_trans hb1.size hb2.size) hb3.size) hb4) (Nat.le_trans (Nat.le_trans (Nat.le_trans hb1.size hb2.size) hb3.size) hb4.size) hb5)
  clear hA hQ hb1 hb2 hb3 hb4 hb5 ht HN HA HF HS HC
  generalize amountsL l 0 = L at *
  obtain ⟨wz, rfl⟩ : ∃ wz : World, wz = w5 := ⟨_, rfl⟩
  go_loopw [63] (fun i wr => ∃ k n : Nat, k ≤ L.length ∧ i = .int .i64 k ∧ wr = wz.drewN n) (fun i _ => L.length - (intOf i).toNat)
  case atStart => exact ⟨0, 0, Nat.zero_le _, rfl, rfl⟩
  case round =>
    obtain ⟨k, n, hk, rfl, rfl⟩ := hrel
    by_cases hlt : k < L.length
    · obtain ⟨b, off, y, rfl, hbl, hcy, hy⟩ := QL.out.get hlt
      obtain ⟨b', off', x, rfl, hbl', hcx, hx⟩ := QS.out.get (k := k) (by rw [HSL.out]; exact hlt)
      have hy1 : 0 ≤ y ∧ y < 5000 := by
        rw [← hy.out, List.getD_eq_getElem?_getD, List.getElem?_eq_getElem hlt]
        exact HB.out.2 _ (List.getElem_mem hlt)
      obtain ⟨r1, r2, r3⟩ := tmod_u8 hy1.1 (n := 1 + m) (by omega)
      have r4 : y % (1 + m) ≤ y := by rw [Int.emod_def]; have := Int.mul_nonneg (show 0 ≤ 1 + m by omega) (Int.ediv_nonneg hy1.1 (show 0 ≤ 1 + m by omega)); omega
      have hxy := HK.out k hlt
      rw [hx.out, hy.out] at hxy
      generalize y % (1 + m) = r at *
      have hb : (x != y - r) = false := by rw [hxy]; simp
      have HXY := Lib.hid hxy
      have hk0 : (0 : Int) ≤ (k : Int) := Int.natCast_nonneg _
      have hk1 : (k : Int) < (L.length : Int) := by omega
      have hk2 : (k : Int) < (S.length : Int) := by omega
      have hu0 : ¬ (1 + m) = 0 := by omega
      have hrw : IntKind.i64.wrap r = r := by rw [IntKind.wrap_i64]; omega
      have hyw : IntKind.i64.wrap (y - r) = y - r := by rw [IntKind.wrap_i64]; omega
      clear hxy
      go_wp2_with fail
      go_quiet (fail)
      go_wp2
      go_roundw
      case rel => exact ⟨k + 1, _, by omega, by go_num, rfl⟩
      case measure => simp [intOf]; omega
    · obtain rfl : k = L.length := by omega
      clear hlt hk
      go_wp2_with (first | (go_at_call 33; refine (awake33_any _).mono ?_; rintro e w9 ⟨rfl, hb9⟩))
      go_ret
      exact ⟨rfl, bnext (bnext BEL.out BEL.out.size (drewN_below _ n)) BEL.out.size hb9⟩

set_option maxRecDepth 100000 in
set_option maxHeartbeats 4000000 in
theorem envelopeFactor_walk (a : Option Addr) (len cap : Nat) (z : List Int) (v : Int) (w : World) (w0 : IsRow .i64 w a len cap z) (w1 : (Lit.int .u16 v).wf = true) :
    Calls Try.prog 12 #[.slice a len cap, .int .u16 v] w fun e w' => e = .returned (.bool true) ∧ Below w.heap.size w w' := by
  obtain ⟨x1, x2⟩ := bd_u16 w1
  have HN := Lib.hid (new_any a len cap z w w0)
  clear w0 w1
  generalize (z.take len).take 400 = l at *
  have hG := Lib.hid (amountsL_good l 0 (e := v) (u := 1) (by omega) (by omega) (by omega) (by omega))
  have HB := Lib.hid (amountsL_bd l 0)
  have k3 := hG.out.cut
  obtain ⟨d0, d1, n0, n1⟩ := hG.out.factor_bd
  have hSL := hG.out.scale_len
  have hf := fun p cap (W : World) (h : Ints W p (amountsL l 0)) => factor_any v 1 p (amountsL l 0) cap W h
  rw [En.err_of hG.out] at hf
  have HF := Lib.hid hf
  have HC := Lib.hid (fun p cap (W : World) (h : Ints W p (amountsL l 0)) => scale_fine hG.out p cap W h)
  have HA := Lib.hid (fun (W : World) (h : TapeAt W w.heap.size l 0) => amounts_any w.heap.size l 0 W h)
  have HKP := Lib.hid hG.out.keeps
  have HK := Lib.hid k3
  have HSL := Lib.hid hSL
  have hL7 := HB.out.1
  have hSB : ((En.scale v 1 (amountsL l 0)).length : Int) = ((amountsL l 0).length : Int) := by rw [hSL]
  clear k3 hf hSL hG
  generalize En.scale v 1 (amountsL l 0) = S at *
  generalize (En.factor v 1 (amountsL l 0)).1 = nn at *
  generalize (En.factor v 1 (amountsL l 0)).2 = dd at *
  have hnB : ((S.length : Int) != ((amountsL l 0).length : Int)) = false := by rw [hSB]; simp
  go_enter Try.func12, Try.ntmps12
  go_wp2_with (first | (go_at_call 21; refine (HN.out).mono ?_; rintro e w1 ⟨rfl, ht, hb1⟩) | (go_at_call 34; refine (HA.out _ ht).mono ?_; rintro e w2 ⟨p, cp, rfl, hA, hb2⟩) | (go_at_call 35; refine (HC.out _ _ _ hA).mono ?_; rintro e w3 ⟨q, cq, rfl, hQ, hb3⟩) | (go_at_call 37; refine (HF.out _ _ _ (hA.below hb3)).mono ?_; rintro e w4 ⟨rfl, hb4⟩))
  have QL := Lib.hid ((hA.below hb3).below hb4)
  have QS := Lib.hid (hQ.below hb4)
  have BEL := Lib.hid (bnext (bnext (hb1.trans hb2) (Nat.le_trans hb1.size hb2.size) hb3) (Nat.le_trans (Nat.le_trans hb1.size hb2.size) hb3.size) hb4)
  clear hA hQ hb1 hb2 hb3 hb4 ht HN HA HF HC
  generalize amountsL l 0 = L at *
  obtain ⟨wz, rfl⟩ : ∃ wz : World, wz = w4 := ⟨_, rfl⟩
  go_loopw [51] (fun i wr => ∃ k n : Nat, k ≤ L.length ∧ i = .int .i64 k ∧ wr = wz.drewN n) (fun i _ => L.length - (intOf i).toNat)
  case atStart => exact ⟨0, 0, Nat.zero_le _, rfl, rfl⟩
  case round =>
    obtain ⟨k, n, hk, rfl, rfl⟩ := hrel
    by_cases hlt : k < L.length
    · obtain ⟨b, off, y, rfl, hbl, hcy, hy⟩ := QL.out.get hlt
      obtain ⟨b', off', x, rfl, hbl', hcx, hx⟩ := QS.out.get (k := k) (by rw [HSL.out]; exact hlt)
      have hy1 : 0 ≤ y ∧ y < 5000 := by
        rw [← hy.out, List.getD_eq_getElem?_getD, List.getElem?_eq_getElem hlt]
        exact HB.out.2 _ (List.getElem_mem hlt)
      obtain ⟨hx0, hx1, -⟩ := HKP.out.at_ k hlt
      rw [hx.out] at hx0
      rw [hx.out, hy.out] at hx1
      obtain ⟨c1, c2⟩ := HK.out k hlt
      rw [hx.out, hy.out] at c1 c2
      have p0 : 0 ≤ x * dd := Int.mul_nonneg hx0 (by omega)
      have p1 : x * dd ≤ 5000 * 4398046511104 := Int.mul_le_mul (by omega) d1 (by omega) (by omega)
      have q0 : 0 ≤ y * nn := Int.mul_nonneg hy1.1 n0
      have q1 : y * nn ≤ 5000 * 68719476736 := Int.mul_le_mul (by omega) n1 (by omega) (by omega)
      obtain ⟨X, hX⟩ : ∃ X, x * dd = X := ⟨_, rfl⟩
      obtain ⟨Y, hY⟩ : ∃ Y, y * nn = Y := ⟨_, rfl⟩
      rw [hX] at p0 p1 c1 c2
      rw [hY] at q0 q1 c1 c2
      have hm1 : IntKind.i64.wrap (x * dd) = X := by rw [hX, IntKind.wrap_i64]; omega
      have hm2 : IntKind.i64.wrap (y * nn) = Y := by rw [hY, IntKind.wrap_i64]; omega
      have hk0 : (0 : Int) ≤ (k : Int) := Int.natCast_nonneg _
      have hk1 : (k : Int) < (L.length : Int) := by omega
      have hk2 : (k : Int) < (S.length : Int) := by omega
      have hw1 : IntKind.i64.wrap (Y - dd) = Y - dd := by rw [IntKind.wrap_i64]; omega
      have hw2 : IntKind.i64.wrap (Y + dd) = Y + dd := by rw [IntKind.wrap_i64]; omega
      have hc1 : ¬ X ≤ Y - dd := by omega
      have hc2 : ¬ Y + dd ≤ X := by omega
      clear hX hY
      go_wp2_with fail
      go_quiet (fail)
      go_wp2
      go_roundw
      case rel => exact ⟨k + 1, _, by omega, by go_num, rfl⟩
      case measure => simp [intOf]; omega
    · obtain rfl : k = L.length := by omega
      clear hlt hk
      go_wp2_with (first | (go_at_call 33; refine (awake33_any _).mono ?_; rintro e w9 ⟨rfl, hb9⟩))
      go_ret
      exact ⟨rfl, bnext (bnext BEL.out BEL.out.size (drewN_below _ n)) BEL.out.size hb9⟩

theorem sum_bd7 {l : List Int} {c : Int} (h7 : l.length ≤ 7) (h : ∀ i, i < l.length → 0 ≤ l.getD i 0 ∧ l.getD i 0 ≤ c) (hc : 0 ≤ c) (k : Nat) : 0 ≤ Sh.sum (l.take k) ∧ Sh.sum (l.take k) ≤ 7 * c := by
  have hx : ∀ x ∈ l.take k, 0 ≤ x ∧ x ≤ c := fun x hx => by
    obtain ⟨i, hi, rfl⟩ := List.getElem_of_mem (List.mem_of_mem_take hx)
    have := h i hi
    rw [List.getD_eq_getElem?_getD, List.getElem?_eq_getElem hi] at this
    exact this
  refine ⟨Sh.sum_nonneg fun x m => (hx x m).1, ?_⟩
  have h1 := Sh.sum_le_len fun x m => (hx x m).2
  have hl : (l.take k).length ≤ l.length := List.length_take_le' _ _
  have h2 : c * ((l.take k).length : Int) ≤ c * 7 := Int.mul_le_mul_of_nonneg_left (by omega) hc
  omega

theorem amountsL_at (l : List Int) (a : Nat) : ∀ i, i < (amountsL l a).length → 0 ≤ (amountsL l a).getD i 0 ∧ (amountsL l a).getD i 0 ≤ 5000 := fun i hi => by
  rw [List.getD_eq_getElem?_getD, List.getElem?_eq_getElem hi]
  have := (amountsL_bd l a).2 _ (List.getElem_mem hi)
  simp only [Option.getD_some]
  omega

set_option maxRecDepth 100000 in
set_option maxHeartbeats 4000000 in
theorem envelopeGrows_walk (a : Option Addr) (len cap : Nat) (z : List Int) (v v' u : Int) (w : World) (w0 : IsRow .i64 w a len cap z) (w1 : (Lit.int .u16 v).wf = true) (w2 : (Lit.int .u8 v').wf = true) (w3 : (Lit.int .u8 u).wf = true) :
    Calls Try.prog 11 #[.slice a len cap, .int .u16 v, .int .u8 v', .int .u8 u] w fun e w' => e = .returned (.bool true) ∧ Below w.heap.size w w' := by
  obtain ⟨x1, x2⟩ := bd_u16 w1
  obtain ⟨y1, y2⟩ := bd_u8 w2
  obtain ⟨z1, z2⟩ := bd_u8 w3
  have HN := Lib.hid (new_any a len cap z w w0)
  clear w0 w1 w2 w3
  generalize (z.take len).take 400 = l at *
  obtain ⟨hm, m1, m2⟩ := tmod_u8 z1 (n := 60) (by omega)
  generalize u % 60 = m at *
  have hG := Lib.hid (amountsL_good l 0 (e := v) (u := 1 + m) (by omega) (by omega) (by omega) (by omega))
  have hG' := Lib.hid (amountsL_good l 0 (e := v + v') (u := 1 + m) (by omega) (by omega) (by omega) (by omega))
  have HB := Lib.hid (amountsL_bd l 0)
  obtain ⟨k1, k2⟩ := hG.out.grows hG'.out (by omega)
  have hSL := hG.out.scale_len
  have hSL' := hG'.out.scale_len
  have hC := fun p cap (W : World) (h : Ints W p (amountsL l 0)) => scale_fine hG.out p cap W h
  have HC := Lib.hid hC
  have hC' := fun p cap (W : World) (h : Ints W p (amountsL l 0)) => scale_fine hG'.out p cap W h
  have HC' := Lib.hid hC'
  have HA := Lib.hid (fun (W : World) (h : TapeAt W w.heap.size l 0) => amounts_any w.heap.size l 0 W h)
  have hL7 := HB.out.1
  have b1 : ∀ i, i < (En.scale v (1 + m) (amountsL l 0)).length → 0 ≤ (En.scale v (1 + m) (amountsL l 0)).getD i 0 ∧ (En.scale v (1 + m) (amountsL l 0)).getD i 0 ≤ 5000 := fun i hi => by
    rw [hSL] at hi
    have := hG.out.keeps.at_ i hi
    have := amountsL_at l 0 i hi
    omega
  have b2 : ∀ i, i < (En.scale (v + v') (1 + m) (amountsL l 0)).length → 0 ≤ (En.scale (v + v') (1 + m) (amountsL l 0)).getD i 0 ∧ (En.scale (v + v') (1 + m) (amountsL l 0)).getD i 0 ≤ 5000 := fun i hi => by
    rw [hSL'] at hi
    have := hG'.out.keeps.at_ i hi
    have := amountsL_at l 0 i hi
    omega
  have HSL := Lib.hid hSL
  have HSL' := Lib.hid hSL'
  clear hSL hSL' hG hG' hC hC'
  generalize En.scale v (1 + m) (amountsL l 0) = S at *
  generalize En.scale (v + v') (1 + m) (amountsL l 0) = S' at *
  have hSB : (S.length : Int) = ((amountsL l 0).length : Int) := by rw [HSL.out]
  have hSB' : (S'.length : Int) = ((amountsL l 0).length : Int) := by rw [HSL'.out]
  have hnB : ((S.length : Int) != ((amountsL l 0).length : Int)) = false := by rw [hSB]; simp
  have hnB' : ((S'.length : Int) != ((amountsL l 0).length : Int)) = false := by rw [hSB']; simp
  have S1 := Lib.hid (fun k => sum_bd7 (c := 5000) (by rw [HSL.out]; exact hL7) b1 (by omega) k)
  have S2 := Lib.hid (fun k => sum_bd7 (c := 5000) (by rw [HSL'.out]; exact hL7) b2 (by omega) k)
  have HK := Lib.hid k1
  have HT := Lib.hid k2
  have B1 := Lib.hid b1
  have B2 := Lib.hid b2
  clear k1 k2 b1 b2
  go_enter Try.func11, Try.ntmps11
  go_wp2_with (first | (go_at_call 21; refine (HN.out).mono ?_; rintro e w1 ⟨rfl, ht, hb1⟩) | (go_at_call 34; refine (HA.out _ ht).mono ?_; rintro e w2 ⟨p, cp, rfl, hA, hb2⟩) | (go_at_call 35; first | ((with_reducible refine Calls.mono (HC.out _ _ _ hA) ?_); rintro e w3 ⟨q, cq, rfl, hQ, hb3⟩) | ((with_reducible refine Calls.mono (HC'.out _ _ _ (hA.below hb3)) ?_); rintro e w4 ⟨q', cq', rfl, hQ', hb4⟩)))
  have QL := Lib.hid ((hA.below hb3).below hb4)
  have QS := Lib.hid (hQ.below hb4)
  have QS' := Lib.hid hQ'
  have BEL := Lib.hid (bnext (bnext (hb1.trans hb2) (Nat.le_trans hb1.size hb2.size) hb3) (Nat.le_trans (Nat.le_trans hb1.size hb2.size) hb3.size) hb4)
  clear hA hQ hQ' hb1 hb2 hb3 hb4 ht HN HA HC HC'
  generalize amountsL l 0 = L at *
  obtain ⟨wz, rfl⟩ : ∃ wz : World, wz = w4 := ⟨_, rfl⟩
  go_loopw [68, 16, 17] (fun i s t wr => ∃ k n : Nat, k ≤ L.length ∧ i = .int .i64 k ∧ s = .int .i64 (Sh.sum (S.take k)) ∧ t = .int .i64 (Sh.sum (S'.take k)) ∧ wr = wz.drewN n) (fun i _ _ _ => L.length - (intOf i).toNat)
  case atStart => exact ⟨0, 0, Nat.zero_le _, rfl, by simp [Sh.sum], by simp [Sh.sum], rfl⟩
  case round =>
    obtain ⟨k, n, hk, rfl, rfl, rfl, rfl⟩ := hrel
    have s1 := S1.out k
    have s2 := S2.out k
    by_cases hlt : k < L.length
    · obtain ⟨b', off', x, rfl, hbl', hcx, hx⟩ := QS.out.get (k := k) (by rw [HSL.out]; exact hlt)
      obtain ⟨b'', off'', x', rfl, hbl'', hcx', hx'⟩ := QS'.out.get (k := k) (by rw [HSL'.out]; exact hlt)
      have c1 := HK.out k hlt
      rw [hx.out, hx'.out] at c1
      have c2 := B1.out k (by rw [HSL.out]; exact hlt)
      rw [hx.out] at c2
      have c3 := B2.out k (by rw [HSL'.out]; exact hlt)
      rw [hx'.out] at c3
      have hst := Lib.hid (sum_take_succ (l := S) (k := k) (by rw [HSL.out]; exact hlt))
      have hst' := Lib.hid (sum_take_succ (l := S') (k := k) (by rw [HSL'.out]; exact hlt))
      have hk0 : (0 : Int) ≤ (k : Int) := Int.natCast_nonneg _
      have hk1 : (k : Int) < (S.length : Int) := by omega
      have hk2 : (k : Int) < (S'.length : Int) := by omega
      go_wp2_with fail
      go_quiet (fail)
      go_wp2_with fail
      go_quiet (fail)
      go_wp2
      go_roundw
      case rel => exact ⟨k + 1, _, by omega, by go_num, by rw [hst.out, hx.out], by rw [hst'.out, hx'.out], rfl⟩
      case measure => simp [intOf]; omega
    · obtain rfl : k = L.length := by omega
      have hT := HT.out
      have tS : S.take L.length = S := by rw [← HSL.out, List.take_length]
      have tS' : S'.take L.length = S' := by rw [← HSL'.out, List.take_length]
      rw [tS] at s1
      rw [tS'] at s2
      rw [tS, tS']
      clear hlt hk tS tS'
      go_wp2_with (first | (go_at_call 33; refine (awake33_any _).mono ?_; rintro e w9 ⟨rfl, hb9⟩))
      go_ret
      exact ⟨rfl, bnext (bnext BEL.out BEL.out.size (drewN_below _ n)) BEL.out.size hb9⟩

end Go.Proofs.Ytlmikbjnibiajaa
