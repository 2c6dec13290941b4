/-
  THE WALK over law17.SchemeAmounts. Printed by gent47.py.
-/
import Derived.Test.YtflcdkibjakciaaGreatDoorT46
namespace Go.Proofs.YtflcdkibjakciaaGreatDoor
open Go.RowKit Te Sc

theorem rateAt_hit {l : List Brk} {n : Int} {j : Nat} (hj : j < l.length) (h : ∀ k (hk : k < l.length), k < j → ¬ n ≤ l[k].up) (h2 : n ≤ l[j].up) : rateAt l n = l[j].rate := by
  unfold rateAt
  rw [show (l.find? fun b => decide (n ≤ b.up)) = some l[j] from List.find?_eq_some_iff_getElem.2 ⟨by simpa using h2, j, hj, rfl, fun i hi => by simpa using h i (by omega) hi⟩]
theorem rateAt_no {l : List Brk} {n : Int} (h : ∀ k (hk : k < l.length), ¬ n ≤ l[k].up) : rateAt l n = 0 := by
  unfold rateAt
  rw [show (l.find? fun b => decide (n ≤ b.up)) = none from List.find?_eq_none.2 fun x hx => by
    obtain ⟨k, hk, rfl⟩ := List.mem_iff_getElem.1 hx
    simpa using h k hk]

/-- What is summed up ahead of square n. -/
def amtH (l : List Brk) (n : Nat) : Int := if n = 0 then 0 else amt l ((n : Int) - 1) l.length

theorem amtH_succ (l : List Brk) (n : Nat) : amtH l (n + 1) = amt l n l.length := by
  unfold amtH
  rw [if_neg (by omega)]
  congr 1
  omega

theorem amt_bd {l : List Brk} (h : brB l = true) (sq : Int) : 0 ≤ amt l sq l.length ∧ amt l sq l.length ≤ 281474976710656 := by
  have h1 := amt_le (sq := sq) (Nat.le_refl l.length) (brB_all h)
  have h2 := upB_le (Nat.le_refl l.length) (brB_all h)
  omega

theorem amtH_bd {l : List Brk} (h : brB l = true) (n : Nat) : 0 ≤ amtH l n ∧ amtH l n ≤ 281474976710656 := by
  unfold amtH
  split
  · omega
  · exact amt_bd h _

theorem amtH_rate {l : List Brk} (h : brB l = true) {n : Nat} (hn : 0 < n) : amtH l n + rateAt l (n : Int) = amt l (n : Int) l.length := by
  unfold amtH
  rw [if_neg (by omega)]
  have := amt_next (asc_right h) (n := (n : Int) - 1) (by omega)
  rw [show (n : Int) - 1 + 1 = n by omega] at this
  exact this.symm

theorem rateAt_bd {l : List Brk} (h : brB l = true) (n : Int) : 0 ≤ rateAt l n ∧ rateAt l n ≤ 1048576 := by
  refine ⟨rateAt_nonneg l 0 n (asc_right h), ?_⟩
  exact rateAt_le l 1048576 n (by omega) fun x hx => (br_each h x hx).2.2.2

set_option maxRecDepth 100000 in
set_option maxHeartbeats 8000000 in
theorem schemeAmounts_walk (a : Option Addr) (len cap : Nat) (z : List Int) (s1 : Int) (w : World) (h : IsRow .i64 w a len cap z) (wb1 : (Lit.int .u8 s1).wf = true) (hE : Env w) :
    Calls Tryz.prog 3 #[.slice a len cap, .int .u8 s1] w (Yes w) := by
  have HN := Lib.hid (new_any a len cap z w h)
  have HE := Lib.hid hE
  obtain ⟨b0, b1⟩ := bd_u8 wb1
  clear h hE wb1
  obtain ⟨l, el⟩ : ∃ l, (z.take len).take 400 = l := ⟨_, rfl⟩
  rw [el] at HN
  clear el
  obtain ⟨m, em⟩ : ∃ m : Int, s1.tmod 130 = m := ⟨_, rfl⟩
  have hm0 : 0 ≤ m := by rw [← em]; exact Int.tmod_nonneg _ b0
  have hm1 : m < 130 := by rw [← em]; exact Int.tmod_lt_of_pos _ (by omega)
  obtain ⟨M, rfl⟩ : ∃ N : Nat, m = (N : Int) := Int.eq_ofNat_of_zero_le hm0
  go_enter Tryz.func3, Tryz.ntmps3
  go_wp2_with (first
    | (go_at_call 9; refine Calls.mono HN.out ?_; rintro e w1 ⟨rfl, ht1, hb1⟩)
    | fail)
  (with_reducible refine Calls.mono (tapeLaw_any w.heap.size l 0 3 (by decide) w1 ht1) ?_)
  rintro e w2 ⟨v, L, q, rfl, hLw, hck, -, -, -, hB2⟩
  have HB2 := Lib.hid (hb1.trans (hB2.below (Nat.le_refl _) hb1.size))
  obtain ⟨n, hn⟩ : ∃ n, L.length = n := ⟨_, rfl⟩
  obtain ⟨p, c, d, rfl, hnc, -, hss⟩ := hLw.ss hn
  have OK := Lib.hid (lawOk hck)
  have HS := Lib.hid hss
  have HLN := Lib.hid hn
  have hnb : n ≤ 16 := by rw [← hn]; exact OK.out.len
  clear hLw hck hB2 hb1 ht1 hss hn HN hnc
  go_wp2_with fail
  go_loopw [19] (fun i wr => ∃ k : Nat, k ≤ n ∧ i = .int .i64 k ∧ Below w2.heap.size w2 wr) (fun i _ => n - (intOf i).toNat)
  case atStart => exact ⟨0, Nat.zero_le _, rfl, Below.refl _ _⟩
  case round =>
    obtain ⟨wo, rfl⟩ : ∃ wo : World, wo = wr := ⟨_, rfl⟩
    obtain ⟨k, hk, rfl, hb⟩ := hrel
    have HB := Lib.hid hb
    have hk0 : (0 : Int) ≤ (k : Int) := Int.natCast_nonneg _
    by_cases hlt : k < n
    · have hk1 : (k : Int) < (n : Int) := by omega
      have hkL : k < L.length := by rw [HLN.out]; exact hlt
      obtain ⟨b, off, r, rfl, hbl, hC, hv⟩ := (HS.out.below hb).at hkL
      obtain ⟨A, eA⟩ : ∃ A, L[k] = A := ⟨_, rfl⟩
      rw [eA] at hv
      have MA := Lib.hid (show A ∈ L from eA ▸ List.getElem_mem hkL)
      have ONE := Lib.hid (OK.out.one A MA.out)
      have RB := Lib.hid (one_parts ONE.out).2.2.2.2.2.1
      have HNZ := Lib.hid (show r.nm.size ≤ 9223372036854775807 by rw [hv.nm]; exact OK.out.small A MA.out)
      obtain ⟨c0, c1, c2, c3, c4, c5, c6, c7, c8, c9⟩ := hC
      have SBOX := SCells.box wo r 32
      have HAL := balloc (Nat.le_refl _) (Below.refl wo.heap.size wo) (.cells (sCells r).toArray 32)
      obtain ⟨num, nm, ⟨o, tn, tm, tp, tl, tc⟩, bp, bn, bc, least, ex, needs⟩ := r
      simp only at c0 c1 c2 c3 c4 c5 c6 c7 c8 c9
      clear hb eA
      go_wp2_with fail
      obtain ⟨W1, eW1⟩ : ∃ W : World, W = wo.alloc (.cells #[.int .i64 num, .string nm, .int .i64 o, .int .i64 tn, .int .i64 tm, .slice tp tl tc, .slice bp bn bc, .int .i64 least, .int .i64 ex, .bool needs] 32) := ⟨_, rfl⟩
      have HS1 := Lib.hid (show wo.heap.size < W1.heap.size by rw [eW1]; simp)
      have HC1 := Lib.hid (show SCells W1 wo.heap.size 0 _ from eW1 ▸ SBOX)
      have HV1 := Lib.hid (show SV _ W1 d _ A from eW1 ▸ hv.below HAL)
      have HW1 := Lib.hid (show Below w2.heap.size w2 W1 from by rw [eW1]; exact balloc (Nat.le_refl _) HB.out (.cells #[.int .i64 num, .string nm, .int .i64 o, .int .i64 tn, .int .i64 tm, .slice tp tl tc, .slice bp bn bc, .int .i64 least, .int .i64 ex, .bool needs] 32))
      rw [← eW1]
      have HBN := Lib.hid (show A.br.length = bn from HV1.out.bn.symm)
      have hbn : bn ≤ 6 := by rw [← HBN.out]; exact (brB_len RB.out).2
      clear eW1 c0 c1 c2 c3 c4 c5 c6 c7 c8 c9 SBOX HAL hv
      go_loopw [8, 9] (fun sm nv wr => ∃ sq : Nat, sq ≤ M + 1 ∧ nv = .int .i64 sq ∧ sm = .int .i64 (amtH A.br sq) ∧ Below W1.heap.size W1 wr) (fun _ nv _ => M + 1 - (intOf nv).toNat)
      case atStart => exact ⟨0, Nat.zero_le _, rfl, rfl, Below.refl _ _⟩
      case round =>
        obtain ⟨wi, rfl⟩ : ∃ wi : World, wi = wr := ⟨_, rfl⟩
        obtain ⟨sq, hsq, rfl, rfl, hbi⟩ := hrel
        have HBI := Lib.hid hbi
        have hs0 : (0 : Int) ≤ (sq : Int) := Int.natCast_nonneg _
        obtain ⟨t0, t1⟩ := amtH_bd RB.out sq
        obtain ⟨sm, esm⟩ : ∃ x, amtH A.br sq = x := ⟨_, rfl⟩
        have ESM := Lib.hid esm
        rw [esm] at t0 t1 ⊢
        clear esm
        by_cases hle : sq ≤ M
        · have hle1 : (sq : Int) ≤ (M : Int) := by omega
          by_cases hz : sq = 0
          · have SUM := Lib.hid (show sm = amt A.br (sq : Int) A.br.length from by rw [← ESM.out, hz]; exact (amt_none (asc_right RB.out)).symm)
            have hz0 : (sq : Int) = 0 := by omega
            have hzn : ¬ 0 < (sq : Int) := by omega
            clear hbi hz
            obtain ⟨v0, v1, v2, v3, v4, v5, v6, v7, v8, v9⟩ := HC1.out.below HBI.out HS1.out
            simp only [Nat.zero_add] at v0 v1 v2 v3 v4 v5 v6 v7 v8 v9
            have HBQ := HBI
            clear hz0
            have AM := Lib.hid (amount17_any d _ A (sq : Int) _ (HV1.out.below HBQ.out) HNZ.out)
            have hE0 := amtE_zero ONE.out hs0 (show (sq : Int) ≤ 268435456 by omega)
            have hV0 : amtV A (sq : Int) = (sm) / 100 := by
              unfold amtV
              rw [hE0, if_neg (by decide), ← SUM.out]
            rw [hE0, hV0] at AM
            unfold ChkG at AM
            simp only at AM
            clear hE0 hV0
            go_wp2_with (first | (go_at_call 11; (with_reducible refine Calls.mono AM.out ?_); rintro e w8 ⟨rfl, hb8⟩; have HB8 := Lib.hid (bstep (Nat.le_refl _) HBQ.out hb8); clear hb8) | fail)
            go_roundw
            case rel => exact ⟨sq + 1, by omega, by go_num, by rw [amtH_succ, ← SUM.out], HB8.out⟩
            case measure => simp [intOf]; omega
          · have hzp : 0 < (sq : Int) := by omega
            have RT := Lib.hid (amtH_rate RB.out (show 0 < sq by omega))
            rw [ESM.out] at RT
            obtain ⟨v0, v1, v2, v3, v4, v5, v6, v7, v8, v9⟩ := HC1.out.below hbi HS1.out
            simp only [Nat.zero_add] at v0 v1 v2 v3 v4 v5 v6 v7 v8 v9
            clear hbi v0 v1 v2 v3 v4 v5 v7 v8 v9 hz
            go_wp2_with fail
            clear v6
            go_loopw [8, 35] (fun sv iv wr => ∃ j : Nat, j ≤ bn ∧ iv = .int .i64 j ∧ sv = .int .i64 sm ∧ (∀ k (hk : k < A.br.length), k < j → ¬ (sq : Int) ≤ A.br[k].up) ∧ Below W1.heap.size W1 wr) (fun _ iv _ => bn - (intOf iv).toNat)
            case atStart => exact ⟨0, Nat.zero_le _, rfl, rfl, fun k _ h => absurd h (Nat.not_lt_zero k), HBI.out⟩
            case round =>
              clear HBI
              obtain ⟨wj, rfl⟩ : ∃ wj : World, wj = wr := ⟨_, rfl⟩
              obtain ⟨j, hj, rfl, rfl, hno, hbj⟩ := hrel
              have HBJ := Lib.hid hbj
              have HNO := Lib.hid hno
              have hj0 : (0 : Int) ≤ (j : Int) := Int.natCast_nonneg _
              by_cases hjb : j < bn
              · have hj1 : (j : Int) < (bn : Int) := by omega
                have hjA : j < A.br.length := by rw [HBN.out]; exact hjb
                obtain ⟨b', off', ⟨up, rate⟩, rfl, hbl', f0, f1, ex'⟩ := SBk_at (HV1.out.br.below hbj) hjA
                simp only at f0 f1
                have hup := (br_each RB.out _ (List.getElem_mem hjA))
                rw [ex'.out] at hup
                simp only at hup
                have EX := ex'
                by_cases hhit : (sq : Int) ≤ up
                · have SUM := Lib.hid (show sm + rate = amt A.br (sq : Int) A.br.length from by
                    rw [← RT.out, rateAt_hit hjA HNO.out (by rw [EX.out]; exact hhit), EX.out])
                  obtain ⟨v0, v1, v2, v3, v4, v5, v6, v7, v8, v9⟩ := HC1.out.below (balloc (Nat.le_refl _) hbj (.cells #[.int .i64 up, .int .i64 rate] 34)) HS1.out
                  simp only [Nat.zero_add] at v0 v1 v2 v3 v4 v5 v6 v7 v8 v9
                  have HBQ := Lib.hid (balloc (Nat.le_refl _) hbj (.cells #[.int .i64 up, .int .i64 rate] 34))
                  have hr0 := hup.2.2.1
                  have hr1 := hup.2.2.2
                  clear hbj hno hup ex'
                  have AM := Lib.hid (amount17_any d _ A (sq : Int) _ (HV1.out.below HBQ.out) HNZ.out)
                  have hE0 := amtE_zero ONE.out hs0 (show (sq : Int) ≤ 268435456 by omega)
                  have hV0 : amtV A (sq : Int) = (sm + rate) / 100 := by
                    unfold amtV
                    rw [hE0, if_neg (by decide), ← SUM.out]
                  rw [hE0, hV0] at AM
                  unfold ChkG at AM
                  simp only at AM
                  clear hE0 hV0
                  go_wp2_with (first | (go_at_call 11; (with_reducible refine Calls.mono AM.out ?_); rintro e w8 ⟨rfl, hb8⟩; have HB8 := Lib.hid (bstep (Nat.le_refl _) HBQ.out hb8); clear hb8) | fail)
                  go_roundw
                  case rel => exact ⟨sq + 1, by omega, by go_num, by rw [amtH_succ, ← SUM.out], HB8.out⟩
                  case measure => simp [intOf]; omega
                · have HNX := Lib.hid (show ∀ k (hk : k < A.br.length), k < j + 1 → ¬ (sq : Int) ≤ A.br[k].up from fun k hk hkj => by
                    by_cases e : k = j
                    · subst e; rw [EX.out]; exact hhit
                    · exact HNO.out k hk (by omega))
                  have HBX := Lib.hid (balloc (Nat.le_refl _) hbj (.cells #[.int .i64 up, .int .i64 rate] 34))
                  clear hbj hno hup ex'
                  go_wp2_with fail
                  go_roundw
                  case rel => exact ⟨j + 1, by omega, by go_num, rfl, HNX.out, HBX.out⟩
                  case measure => simp [intOf]; omega
              · obtain rfl : j = bn := by omega
                have SUM := Lib.hid (show sm = amt A.br (sq : Int) A.br.length from by
                  rw [← RT.out, rateAt_no (fun k hk => HNO.out k hk (by rw [HBN.out] at hk; exact hk)), Int.add_zero])
                obtain ⟨v0, v1, v2, v3, v4, v5, v6, v7, v8, v9⟩ := HC1.out.below hbj HS1.out
                simp only [Nat.zero_add] at v0 v1 v2 v3 v4 v5 v6 v7 v8 v9
                have HBQ := HBJ
                clear hbj hno
                have AM := Lib.hid (amount17_any d _ A (sq : Int) _ (HV1.out.below HBQ.out) HNZ.out)
                have hE0 := amtE_zero ONE.out hs0 (show (sq : Int) ≤ 268435456 by omega)
                have hV0 : amtV A (sq : Int) = (sm) / 100 := by
                  unfold amtV
                  rw [hE0, if_neg (by decide), ← SUM.out]
                rw [hE0, hV0] at AM
                unfold ChkG at AM
                simp only at AM
                clear hE0 hV0
                go_wp2_with (first | (go_at_call 11; (with_reducible refine Calls.mono AM.out ?_); rintro e w8 ⟨rfl, hb8⟩; have HB8 := Lib.hid (bstep (Nat.le_refl _) HBQ.out hb8); clear hb8) | fail)
                go_roundw
                case rel => exact ⟨sq + 1, by omega, by go_num, by rw [amtH_succ, ← SUM.out], HB8.out⟩
                case measure => simp [intOf]; omega
        · have hsqM : ¬ (sq : Int) ≤ (M : Int) := by omega
          clear hbi hle
          go_wp2_with fail
          go_roundw
          case rel => exact ⟨k + 1, by omega, by go_num, bstep (Nat.le_refl _) HW1.out HBI.out⟩
          case measure => simp [intOf]; omega
    · obtain rfl : k = n := by omega
      have HBF := Lib.hid (bstep (Nat.le_refl _) HB2.out hb)
      have AW := Lib.hid (awake17_any wo (HE.out.below HBF.out))
      unfold Yes at AW
      clear hb
      go_wp2_with (first | (go_at_call 12; (with_reducible refine Calls.mono AW.out ?_); rintro e w7 ⟨rfl, hb7⟩; have HF := Lib.hid (bstep (Nat.le_refl _) HBF.out hb7); clear hb7) | fail)
      go_ret
      exact ⟨rfl, HF.out⟩


end Go.Proofs.YtflcdkibjakciaaGreatDoor
