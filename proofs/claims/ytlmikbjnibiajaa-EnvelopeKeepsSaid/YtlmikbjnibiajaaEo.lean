/-
  THE WALK over the law EnvelopeKeeps.
-/
import Derived.Test.YtlmikbjnibiajaaEm
namespace Go.Proofs.Ytlmikbjnibiajaa
open Go.RowKit

set_option maxRecDepth 100000 in
set_option maxHeartbeats 4000000 in
theorem envelopeKeeps_walk (a : Option Addr) (len cap : Nat) (z : List Int) (v u : Int) (w : World) (w0 : IsRow .i64 w a len cap z) (w1 : (Lit.int .u16 v).wf = true) (w2 : (Lit.int .u8 u).wf = true) :
    Calls Try.prog 9 #[.slice a len cap, .int .u16 v, .int .u8 u] w fun e w' => e = .returned (.bool true) ∧ Below w.heap.size w w' := by
  obtain ⟨x1, x2⟩ := bd_u16 w1
  obtain ⟨z1, z2⟩ := bd_u8 w2
  have HN := Lib.hid (new_any a len cap z w w0)
  clear w0 w1 w2
  generalize (z.take len).take 400 = l at *
  obtain ⟨hm, m1, m2⟩ := tmod_u8 z1 (n := 120) (by omega)
  generalize u % 120 = m at *
  have hG := Lib.hid (amountsL_good l 0 (e := v) (u := 1 + m) (by omega) (by omega) (by omega) (by omega))
  have HB := Lib.hid (amountsL_bd l 0)
  have HK := Lib.hid hG.out.keeps
  have HSL := Lib.hid hG.out.scale_len
  have HC := Lib.hid (fun p cap (W : World) (h : Ints W p (amountsL l 0)) => scale_fine hG.out p cap W h)
  have HS := Lib.hid (fun p cap (W : World) (h : Ints W p (amountsL l 0)) => scaled_any v (1 + m) p (amountsL l 0) cap W h)
  have HA := Lib.hid (fun (W : World) (h : TapeAt W w.heap.size l 0) => amounts_any w.heap.size l 0 W h)
  have hL7 := HB.out.1
  have b1 : ∀ i, i < (En.scale v (1 + m) (amountsL l 0)).length → 0 ≤ (En.scale v (1 + m) (amountsL l 0)).getD i 0 ∧ (En.scale v (1 + m) (amountsL l 0)).getD i 0 ≤ 5000 := fun i hi => by
    rw [HSL.out] at hi
    have := HK.out.at_ i hi
    have := amountsL_at l 0 i hi
    omega
  have B1 := Lib.hid b1
  clear hG b1
  generalize En.scale v (1 + m) (amountsL l 0) = S at *
  generalize hsc : En.scaled v (1 + m) (amountsL l 0) = sc at *
  have hSB : (S.length : Int) = ((amountsL l 0).length : Int) := by rw [HSL.out]
  have hnB : ((S.length : Int) != ((amountsL l 0).length : Int)) = false := by rw [hSB]; simp
  have S1 := Lib.hid (fun k => sum_bd7 (c := 5000) (by rw [HSL.out]; exact hL7) B1.out (by omega) k)
  have HSC := Lib.hid hsc
  clear hsc
  go_enter Try.func9, Try.ntmps9
  go_wp2_with (first | (go_at_call 21; refine (HN.out).mono ?_; rintro e w1 ⟨rfl, ht, hb1⟩) | (go_at_call 34; refine (HA.out _ ht).mono ?_; rintro e w2 ⟨p, cp, rfl, hA, hb2⟩) | (go_at_call 35; refine (HC.out _ _ _ hA).mono ?_; rintro e w3 ⟨q, cq, rfl, hQ, hb3⟩))
  have QL := Lib.hid (hA.below hb3)
  have QS := Lib.hid hQ
  have BEL := Lib.hid (bnext (hb1.trans hb2) (Nat.le_trans hb1.size hb2.size) hb3)
  clear hA hQ hb1 hb2 hb3 ht HN HA HC
  have HLA := Lib.hid (amountsL_at l 0)
  generalize amountsL l 0 = L at *
  obtain ⟨wz, rfl⟩ : ∃ wz : World, wz = w3 := ⟨_, rfl⟩
  go_loopw [42, 12] (fun i s wr => ∃ k n : Nat, k ≤ L.length ∧ i = .int .i64 k ∧ s = .int .i64 (Sh.sum (S.take k)) ∧ wr = wz.drewN n) (fun i _ _ => L.length - (intOf i).toNat)
  case atStart => exact ⟨0, 0, Nat.zero_le _, rfl, by simp [Sh.sum], rfl⟩
  case round =>
    obtain ⟨k, n, hk, rfl, rfl, rfl⟩ := hrel
    have s1 := S1.out k
    by_cases hlt : k < L.length
    · obtain ⟨b, off, y, hpe, hbl, hcy, hy⟩ := QL.out.get hlt
      obtain ⟨b', off', x, hqe, hbl', hcx, hx⟩ := QS.out.get (k := k) (by rw [HSL.out]; exact hlt)
      have hy1 := HLA.out k hlt
      rw [hy.out] at hy1
      obtain ⟨hx0, hx1, hx2⟩ := HK.out.at_ k hlt
      rw [hx.out] at hx0
      rw [hx.out, hy.out] at hx1
      rw [hx.out] at hx2
      obtain ⟨r1, -, -⟩ := tmod_u8 hx0 (n := 1 + m) (by omega)
      rw [hx2] at r1
      have hb0 : (IntKind.i64.wrap 0 != 0) = false := by decide
      have hst := Lib.hid (sum_take_succ (l := S) (k := k) (by rw [HSL.out]; exact hlt))
      have s2 := S1.out (k + 1)
      rw [hst.out, hx.out] at s2
      have hk0 : (0 : Int) ≤ (k : Int) := Int.natCast_nonneg _
      have hk1 : (k : Int) < (S.length : Int) := by omega
      have hk2 : (k : Int) < (L.length : Int) := by omega
      have hu0 : ¬ (1 + m) = 0 := by omega
      clear hx2
      subst hpe
      subst hqe
      go_wp2_with fail
      go_quiet (fail)
      go_wp2
      go_loopw [72] (fun i wr => ∃ j n : Nat, j ≤ S.length ∧ i = .int .i64 j ∧ wr = wz.drewN n) (fun i _ => S.length - (intOf i).toNat)
      case atStart => exact ⟨0, _, Nat.zero_le _, rfl, rfl⟩
      case round =>
        obtain ⟨j, n', hj, rfl, rfl⟩ := hrel
        by_cases hjl : j < S.length
        · have hjL : j < L.length := by rw [← HSL.out]; exact hjl
          obtain ⟨b2, off2, y2, e2, -, hcy2, hy2⟩ := QL.out.get hjL
          obtain ⟨b3, off3, x2', e3, -, hcx2, hx2⟩ := QS.out.get hjl
          simp only [Option.some.injEq, Addr.mk.injEq] at e2 e3
          obtain ⟨rfl, rfl, -⟩ := e2
          obtain ⟨rfl, rfl, -⟩ := e3
          have hy3 := HLA.out j hjL
          rw [hy2.out] at hy3
          have g0 : 0 ≤ y / (1 + m) := Int.ediv_nonneg hy1.1 (by omega)
          have g1 : y / (1 + m) ≤ y := Int.ediv_le_self _ hy1.1
          have g2 : 0 ≤ y2 / (1 + m) := Int.ediv_nonneg hy3.1 (by omega)
          have g3 : y2 / (1 + m) ≤ y2 := Int.ediv_le_self _ hy3.1
          have hd1 : IntKind.i64.wrap (y.tdiv (1 + m)) = y / (1 + m) := by
            rw [Int.tdiv_eq_ediv_of_nonneg hy1.1]; generalize y / (1 + m) = q at *; rw [IntKind.wrap_i64]; omega
          have hd2 : IntKind.i64.wrap (y2.tdiv (1 + m)) = y2 / (1 + m) := by
            rw [Int.tdiv_eq_ediv_of_nonneg hy3.1]; generalize y2 / (1 + m) = q at *; rw [IntKind.wrap_i64]; omega
          have hj0 : (0 : Int) ≤ (j : Int) := Int.natCast_nonneg _
          have hj1 : (j : Int) < (S.length : Int) := by omega
          have hj2 : (j : Int) < (L.length : Int) := by omega
          have hmo := HK.out.mono k j hlt hjL
          rw [hx.out, hx2.out, hy.out, hy2.out] at hmo
          generalize y / (1 + m) = q1 at *
          generalize y2 / (1 + m) = q2 at *
          by_cases hlt2 : q2 < q1
          · have hmn : ¬ x < x2' := by
              have := hmo hlt2
              omega
            have hB : decide (q2 < q1) = true := decide_eq_true hlt2
            clear hmo
            go_wp2_with fail
            go_quiet (fail)
            go_wp2
            go_roundw
            case rel => exact ⟨j + 1, _, by omega, by go_num, rfl⟩
            case measure => simp [intOf]; omega
          · have hB : decide (q2 < q1) = false := decide_eq_false hlt2
            clear hmo
            go_wp2_with fail
            go_quiet (fail)
            go_wp2
            go_roundw
            case rel => exact ⟨j + 1, _, by omega, by go_num, rfl⟩
            case measure => simp [intOf]; omega
        · obtain rfl : j = S.length := by omega
          clear hjl hj
          go_wp2
          go_roundw
          case rel => exact ⟨k + 1, _, by omega, by go_num, by rw [hst.out, hx.out], rfl⟩
          case measure => simp [intOf]; omega
    · obtain rfl : k = L.length := by omega
      have tS : S.take L.length = S := by rw [← HSL.out, List.take_length]
      have hT := HK.out.sum
      have hN := HK.out.near
      rw [HSC.out] at hN
      rw [tS] at s1
      rw [tS]
      have hQL := Lib.hid (show Ints (wz.drewN n) p L from QL.out)
      clear hlt hk tS
      cases sc
      · go_wp2_with (first | (go_at_call 40; refine (HS.out _ _ _ hQL.out).mono ?_; rintro e w8 ⟨rfl, hb8⟩) | (go_at_call 33; refine (awake33_any _).mono ?_; rintro e w9 ⟨rfl, hb9⟩))
        go_ret
        exact ⟨rfl, bnext (bnext (bnext BEL.out BEL.out.size (drewN_below _ n)) BEL.out.size hb8) (Nat.le_trans BEL.out.size hb8.size) hb9⟩
      · have hN' := hN rfl
        clear hN
        go_wp2_with (first | (go_at_call 40; refine (HS.out _ _ _ hQL.out).mono ?_; rintro e w8 ⟨rfl, hb8⟩) | (go_at_call 33; refine (awake33_any _).mono ?_; rintro e w9 ⟨rfl, hb9⟩))
        go_ret
        exact ⟨rfl, bnext (bnext (bnext BEL.out BEL.out.size (drewN_below _ n)) BEL.out.size hb8) (Nat.le_trans BEL.out.size hb8.size) hb9⟩

end Go.Proofs.Ytlmikbjnibiajaa
