/-
  THE WALKS over the laws ExactParts and ExactShares of chapter 1.
-/
import Derived.Test.YtlmikbjnibiajaaLa
namespace Go.Proofs.Ytlmikbjnibiajaa
open Go.RowKit

theorem part_in {t p s : Int} (h1 : 0 ≤ t) (h2 : t ≤ 4294967295) (h3 : 0 ≤ p) (h4 : p ≤ 65536) (h5 : 1 ≤ s) (h6 : s ≤ 65536) : part t p s = (t * p / s, 0) ∧ 0 ≤ t * p / s ∧ t * p / s ≤ 281474976710656 ∧ t * p / s * s ≤ t * p ∧ t * p < (t * p / s + 1) * s ∧ t * p ≤ 281474976710656 := by
  have hm : 0 ≤ t * p := Int.mul_nonneg h1 h3
  have hm2 : t * p ≤ 4294967295 * p := Int.mul_le_mul_of_nonneg_right h2 h3
  have q0 : 0 ≤ t * p / s := Int.ediv_nonneg hm (by omega)
  have q1 : t * p / s ≤ t * p := Int.ediv_le_self s hm
  have q2 := Int.ediv_mul_le (t * p) (b := s) (by omega)
  have q3 := Int.lt_ediv_add_one_mul_self (t * p) (b := s) (by omega)
  refine ⟨?_, q0, by omega, q2, q3, by omega⟩
  unfold part
  rw [if_pos (by omega), if_neg (by omega)]

set_option maxHeartbeats 2000000 in
theorem exactParts_walk (t p s : Int) (w0 : (Lit.int .u32 t).wf = true) (w1 : (Lit.int .u16 p).wf = true) (w2 : (Lit.int .u16 s).wf = true) (w : World) :
    Calls Try.prog 7 #[.int .u32 t, .int .u16 p, .int .u16 s] w fun e w' => e = .returned (.bool true) ∧ Below w.heap.size w w' := by
  obtain ⟨t1, t2⟩ := bd_u32 w0
  obtain ⟨p1, p2⟩ := bd_u16 w1
  obtain ⟨s1, s2⟩ := bd_u16 w2
  clear w0 w1 w2
  obtain ⟨e1, a1, a2, a3, a4, a5⟩ := part_in (t := t) (p := p) (s := s + 1) t1 t2 p1 (by omega) (by omega) (by omega)
  obtain ⟨e2, b1, b2, b3, b4, b5⟩ := part_in (t := t) (p := p + 1) (s := s + 1) t1 t2 (by omega) (by omega) (by omega) (by omega)
  obtain ⟨e3, -⟩ := part_in (t := t) (p := s + 1) (s := s + 1) t1 t2 (by omega) (by omega) (by omega) (by omega)
  rw [Int.mul_ediv_cancel _ (show s + 1 ≠ 0 by omega)] at e3
  have hle : t * p / (s + 1) ≤ t * (p + 1) / (s + 1) := Int.ediv_le_ediv (by omega) (Int.mul_le_mul_of_nonneg_left (by omega) t1)
  have c1 := fun w => part_any t p (s + 1) w
  have c2 := fun w => part_any t (p + 1) (s + 1) w
  have c3 := fun w => part_any t (s + 1) (s + 1) w
  rw [e1] at c1
  rw [e2] at c2
  rw [e3] at c3
  generalize t * p / (s + 1) = q at *
  generalize t * (p + 1) / (s + 1) = r at *
  have m1 : IntKind.i64.wrap (q * (s + 1)) = q * (s + 1) := IntWalk.i64_in _ ⟨by have := Int.mul_nonneg a1 (show 0 ≤ s + 1 by omega); omega, by omega⟩
  have m2 : IntKind.i64.wrap (t * p) = t * p := IntWalk.i64_in _ ⟨by have := Int.mul_nonneg t1 p1; omega, by omega⟩
  have m3 : IntKind.i64.wrap ((q + 1) * (s + 1)) = (q + 1) * (s + 1) := IntWalk.i64_in _ ⟨by have := Int.mul_nonneg (show 0 ≤ q + 1 by omega) (show 0 ≤ s + 1 by omega); omega, by rw [Int.add_mul]; omega⟩
  have C1 := Lib.hid c1
  have C2 := Lib.hid c2
  have C3 := Lib.hid c3
  clear c1 c2 c3 e1 e2 e3
  go_enter Try.func7, Try.ntmps7
  go_wp2_with (first | (go_at_call 25; first | (with_reducible refine Calls.mono (C1.out _) ?_; rintro e w1 ⟨rfl, hb1⟩) | (with_reducible refine Calls.mono (C2.out _) ?_; rintro e w2 ⟨rfl, hb2⟩) | (with_reducible refine Calls.mono (C3.out _) ?_; rintro e w3 ⟨rfl, hb3⟩)) | (go_at_call 18; refine (awake01_any _).mono ?_; rintro e w9 ⟨rfl, hb9⟩))
  go_ret
  have z1 := hb1.size
  have z2 := hb2.size
  have z3 := hb3.size
  exact ⟨rfl, bnext (bnext (bnext hb1 (by omega) hb2) (by omega) hb3) (by omega) hb9⟩

/-- What the law's second loop finds at index i. -/
structure ShareAt (t : Int) (l s : List Int) (i : Nat) : Prop where
  q : 0 < Sh.sum l → s.getD i 0 = t * l.getD i 0 / Sh.sum l ∨ s.getD i 0 = t * l.getD i 0 / Sh.sum l + 1
  z : 0 < Sh.sum l → l.getD i 0 = 0 → s.getD i 0 = 0
  b : 0 ≤ s.getD i 0 ∧ s.getD i 0 ≤ 4294967296
  m : 0 ≤ t * l.getD i 0 ∧ t * l.getD i 0 ≤ 281474976710656

theorem shares_law {t : Int} {l : List Int} (h1 : 0 ≤ t) (h2 : t ≤ 4294967295) (h3 : l.length ≤ 64) (h4 : ∀ x ∈ l, 0 ≤ x ∧ x ≤ 65535) :
    shErr t l = 0 ∧ (shList t l).length = l.length ∧ (∀ i, i < l.length → ShareAt t l (shList t l) i) ∧ Sh.sum (shList t l) = (if 0 < Sh.sum l then t else 0) ∧ 0 ≤ Sh.sum l ∧ Sh.sum l ≤ 4194240 := by
  have lt : Sh.limited t = true := Sh.limited_iff.2 ⟨h1, by omega⟩
  have la : (l.any fun x => !Sh.limited x) = false := by
    rw [List.any_eq_false]
    intro x hx
    have := h4 x hx
    rw [Sh.limited_iff.2 ⟨this.1, by omega⟩]
    simp
  have he : shErr t l = 0 := by unfold shErr; rw [if_neg (by omega), if_neg (by rw [lt, la]; simp)]
  have s0 : 0 ≤ Sh.sum l := Sh.sum_nonneg fun x hx => (h4 x hx).1
  have s1 : Sh.sum l ≤ 65535 * l.length := Sh.sum_le_len fun x hx => (h4 x hx).2
  have hg : ∀ i, 0 ≤ l.getD i 0 ∧ l.getD i 0 ≤ 65535 := fun i => by
    rw [List.getD_eq_getElem?_getD]
    rcases Nat.lt_or_ge i l.length with hi | hi
    · rw [List.getElem?_eq_getElem hi]; exact h4 _ (List.getElem_mem hi)
    · rw [List.getElem?_eq_none hi]; decide
  have hm : ∀ i, 0 ≤ t * l.getD i 0 ∧ t * l.getD i 0 ≤ 281474976710656 := fun i => by
    have := hg i
    have h5 : t * l.getD i 0 ≤ 4294967295 * l.getD i 0 := Int.mul_le_mul_of_nonneg_right h2 this.1
    exact ⟨Int.mul_nonneg h1 this.1, by omega⟩
  by_cases hs : Sh.sum l = 0
  · have e : shList t l = List.replicate l.length 0 := by unfold shList; rw [he, if_neg (by simp), if_pos hs]
    rw [e]
    refine ⟨he, by simp, fun i hi => ⟨fun h => by omega, fun h => by omega, ?_, hm i⟩, ?_, s0, by omega⟩
    · simp [List.getD_eq_getElem?_getD, hi]
    · rw [hs, if_neg (by omega)]
      have := Sh.sum_map_const 0 l
      rw [Int.zero_mul, List.map_const'] at this
      exact this
  · have e : shList t l = Sh.shares t l := by unfold shList; rw [he, if_neg (by simp), if_neg hs]
    have hR : Sh.Right t l := any_odd lt la hs
    rw [e]
    refine ⟨he, by simp [Sh.shares], fun i hi => ?_, ?_, s0, by omega⟩
    · have hgi : (Sh.shares t l).getD i 0 = Sh.share t l i := getD_map_range _ _ _ hi
      have hb := hR.share_bd i
      refine ⟨fun _ => ?_, fun _ hz => ?_, ?_, hm i⟩
      · rw [hgi]
        unfold Sh.share Sh.quo
        split
        · exact .inr rfl
        · exact .inl (by simp)
      · rw [hgi]; exact hR.share_zero hi hz
      · rw [hgi]; omega
    · rw [if_pos (by omega)]; exact hR.total

set_option maxRecDepth 100000 in
set_option maxHeartbeats 4000000 in
theorem exactShares_walk (t : Int) (a : Option Addr) (len cap : Nat) (z : List Int) (w : World) (w0 : (Lit.int .u32 t).wf = true) (w1 : IsRow .u16 w a len cap z) :
    Calls Try.prog 4 #[.int .u32 t, .slice a len cap] w fun e w' => e = .returned (.bool true) ∧ Below w.heap.size w w' := by
  obtain ⟨t1, t2⟩ := bd_u32 w0
  have hl := w1.len
  have hlm : len ≤ 9223372036854775807 := by have := hl.2; unfold maxLen at this; omega
  have hwf : ∀ k, 0 ≤ z.getD k 0 ∧ z.getD k 0 ≤ 65535 := fun k => by
    rw [List.getD_eq_getElem?_getD]
    rcases Nat.lt_or_ge k z.length with hi | hi
    · rw [List.getElem?_eq_getElem hi]; exact bd_u16 (w1.wf _ (List.getElem_mem hi))
    · rw [List.getElem?_eq_none hi]; decide
  have hsum : ∀ k, k ≤ 64 → 0 ≤ Sh.sum (z.take k) ∧ Sh.sum (z.take k) ≤ 4194240 := fun k hk => by
    have hx : ∀ x ∈ z.take k, 0 ≤ x ∧ x ≤ 65535 := fun x hx => bd_u16 (w1.wf _ (List.mem_of_mem_take hx))
    refine ⟨Sh.sum_nonneg fun x h => (hx x h).1, ?_⟩
    have := Sh.sum_le_len fun x h => (hx x h).2
    have hln : (z.take k).length ≤ k := List.length_take_le _ _
    omega
  obtain ⟨i0, hi, hz0, hz1, hz2⟩ := info_parts info_int
  have W1 := Lib.hid w1
  have HW := Lib.hid hwf
  have HS := Lib.hid hsum
  have HL := Lib.hid hl
  have HI := Lib.hid (And.intro hi (And.intro hz0 (And.intro hz1 hz2)))
  clear w0 w1 hwf hsum hl hi hz0 hz1 hz2
  go_enter Try.func4, Try.ntmps4
  go_wp2
  go_loopw [5, 6, 7] (fun v s i wr => ∃ k : Nat, k ≤ len ∧ k ≤ 64 ∧ i = .int .i64 k ∧ s = .int .i64 (Sh.sum (z.take k)) ∧ Own wr 3 w.heap.size v (z.take k) ∧ Below w.heap.size w wr) (fun _ _ i _ => 64 - (intOf i).toNat)
  case atStart => exact ⟨0, by omega, by omega, rfl, rfl, Own.nil _ _ _, Below.refl _ _⟩
  case round =>
    obtain ⟨k, hk, hk64, rfl, rfl, hown, hbel⟩ := hrel
    have hsz := hbel.size
    have HO := Lib.hid hown
    have HB := Lib.hid hbel
    clear hown hbel
    by_cases hlt : k < len ∧ k < 64
    · obtain ⟨hlt, hlt64⟩ := hlt
      obtain ⟨b, off, x, rfl, hbl, hcell0, hx⟩ := W1.out.get hlt
      have hcell : wr.cell? ⟨b, off + k, none⟩ = some (.int .u16 x) := (HB.out.cell (p := ⟨b, off + k, none⟩) hbl).trans hcell0
      have hx1 := HW.out k
      rw [hx.out] at hx1
      have hs0 := HS.out k hk64
      have hkz : k < z.length := by have := HL.out; omega
      have hst := Lib.hid (sum_take_succ hkz)
      have htk := Lib.hid (show z.take (k + 1) = z.take k ++ [x] by rw [List.take_succ_eq_append_getElem hkz, ← hx.out, List.getD_eq_getElem?_getD, List.getElem?_eq_getElem hkz]; rfl)
      have hlk := Lib.hid (show (z.take k).length = k by rw [List.length_take]; omega)
      clear hcell0 hkz
      go_wp2_with (first | (at_builtin; (refine Own.append HI.out.1 HI.out.2.1 HI.out.2.2.1 HI.out.2.2.2 Try.underlying28 rfl (.tmp 23) (.tmp 29) rfl w.heap.size _ _ _ HO.out rfl rfl (by omega) (by rw [hlk.out]; omega) ?_); intro v1 w1 hown1 hb1; have hcell1 := (hb1.cell (p := ⟨b, off + k, none⟩) hbl).trans hcell))
      have HO1 := Lib.hid hown1
      clear hown1
      go_roundw
      case rel => exact ⟨k + 1, by omega, by omega, by go_num, by rw [hst.out, hx.out], by rw [htk.out]; exact HO1.out, HB.out.trans hb1⟩
      case measure => simp [intOf]; omega
    · have hlen := Lib.hid (show (z.take k).length = k by have := HL.out; rw [List.length_take]; omega)
      have hel := Lib.hid (show ∀ x ∈ z.take k, 0 ≤ x ∧ x ≤ 65535 from fun x hx => bd_u16 (W1.out.wf _ (List.mem_of_mem_take hx)))
      have hs0 := HS.out k hk64
      generalize hl' : z.take k = l at *
      clear hl' HS HW
      obtain ⟨p, c, rfl, hin⟩ := HO.out.ints
      obtain ⟨q1, q2, q3, q4, -, -⟩ := shares_law t1 t2 (by have := hlen.out; omega) hel.out
      have hsh := shares_any t p l c wr hin
      rw [q1] at hsh
      have HIN := Lib.hid hin
      generalize hS : shList t l = S at *
      clear hS q1 hin
      have nB : ((S.length : Int) != (l.length : Int)) = false := by rw [q2]; simp
      have lB : (S.length : Int) ≤ 64 := by rw [q2, hlen.out]; omega
      have Q2 := Lib.hid q2
      have Q3 := Lib.hid q3
      have Q4 := Lib.hid q4
      have HSH := Lib.hid hsh
      clear q2 q3 q4 hsh
      have hall : ∀ k, 0 ≤ Sh.sum (S.take k) ∧ Sh.sum (S.take k) ≤ 274877906944 := fun j => by
        have hx : ∀ x ∈ S.take j, 0 ≤ x ∧ x ≤ 4294967296 := fun x hx => by
          obtain ⟨i, hi, rfl⟩ := List.getElem_of_mem (List.mem_of_mem_take hx)
          have := (Q3.out i (by rw [← Q2.out]; exact hi)).b
          rw [List.getD_eq_getElem?_getD, List.getElem?_eq_getElem hi] at this
          exact this
        refine ⟨Sh.sum_nonneg fun x h => (hx x h).1, ?_⟩
        have := Sh.sum_le_len fun x h => (hx x h).2
        have hln : (S.take j).length ≤ S.length := List.length_take_le' _ _
        omega
      have HALL := Lib.hid hall
      clear hall
      have fin : ∀ (w2 : World) (ps : Option Addr), Ints w2 ps S → Ints w2 p l → ∀ j : Nat, j < S.length → ∃ b off x b' off' y, ps = some ⟨b, off, none⟩ ∧ p = some ⟨b', off', none⟩ ∧ w2.cell? ⟨b, off + j, none⟩ = some (.int .i64 x) ∧ w2.cell? ⟨b', off' + j, none⟩ = some (.int .i64 y) ∧ Hid (S.getD j 0 = x) ∧ Hid (l.getD j 0 = y) := fun w2 ps h1 h2 j hj => by
        obtain ⟨b, off, x, e1, _, c1, d1⟩ := h1.get hj
        obtain ⟨b', off', y, e2, _, c2, d2⟩ := h2.get (k := j) (by rw [← Q2.out]; exact hj)
        exact ⟨b, off, x, b', off', y, e1, e2, c1, c2, d1, d2⟩
      have FIN := Lib.hid fin
      clear fin HO hel
      rcases (show (k < len ∧ ¬ k < 64) ∨ ¬ k < len by omega) with ⟨c1, c2⟩ | c1
      all_goals
        clear hlt
        go_wp2_with (first | (go_at_call 19; refine (HSH.out).mono ?_; rintro e w2 ⟨ps, cs, rfl, hsl, hb2⟩))
        have hin2 := HIN.out.below hb2
        have hbel2 := Lib.hid (HB.out.trans (hb2.mono hsz))
        have FN := Lib.hid (FIN.out w2 ps hsl hin2)
        clear hsl hin2 hb2 FIN
        go_loop [56, 10] (fun i s => ∃ j : Nat, j ≤ S.length ∧ i = .int .i64 j ∧ s = .int .i64 (Sh.sum (S.take j))) (fun i _ => S.length - (intOf i).toNat)
        case atStart => exact ⟨0, by omega, rfl, rfl⟩
        case round =>
          obtain ⟨j, hj, rfl, rfl⟩ := hrel
          have hj0 := HALL.out j
          by_cases hjl : j < S.length
          · obtain ⟨b, off, x, b', off', y, rfl, rfl, cx, cy, dx, dy⟩ := FN.out j hjl
            have hst := Lib.hid (sum_take_succ hjl)
            have hj1 := HALL.out (j + 1)
            rw [hst.out, dx.out] at hj1
            obtain ⟨r1, r2, r3, r4⟩ := Q3.out j (by rw [← Q2.out]; exact hjl)
            rw [dx.out, dy.out] at r1
            rw [dx.out, dy.out] at r2
            rw [dx.out] at r3
            rw [dy.out] at r4
            have hjy : (j : Int) < (l.length : Int) := by rw [← Q2.out]; omega
            have hjx : (j : Int) < (S.length : Int) := by omega
            have hj00 : (0 : Int) ≤ (j : Int) := Int.natCast_nonneg _
            by_cases hpos : 0 < Sh.sum l
            · have hne : ¬ Sh.sum l = 0 := by omega
              have m1 : IntKind.i64.wrap (t * y) = t * y := IntWalk.i64_in _ ⟨by omega, by omega⟩
              have d0 : 0 ≤ t * y / Sh.sum l := Int.ediv_nonneg r4.1 (by omega)
              have d1 : t * y / Sh.sum l ≤ 281474976710656 := by have := Int.ediv_le_self (Sh.sum l) r4.1; omega
              replace r1 := r1 hpos
              replace r2 := r2 hpos
              generalize hQ : t * y / Sh.sum l = q at *
              have HR1 := Lib.hid (And.intro r1 r2)
              clear r1 r2
              rcases HR1.out.1 with e1 | e1
              · have b1 : (x != q) = false := by rw [e1]; simp
                clear e1
                by_cases hy : y = 0
                · have b2 : (y == 0) = true := by rw [hy]; rfl
                  have b3 : (x != 0) = false := by rw [HR1.out.2 hy]; rfl
                  clear hy
                  go_wp2
                  go_round
                  case rel => exact ⟨j + 1, by omega, by go_num, by rw [hst.out, dx.out]⟩
                  case measure => simp [intOf]; omega
                · have b2 : (y == 0) = false := by simpa using hy
                  clear hy
                  go_wp2
                  go_round
                  case rel => exact ⟨j + 1, by omega, by go_num, by rw [hst.out, dx.out]⟩
                  case measure => simp [intOf]; omega
              · have b1 : (x != q) = true := by rw [e1]; simp; omega
                have b4 : (x != q + 1) = false := by rw [e1]; simp
                clear e1
                by_cases hy : y = 0
                · have b2 : (y == 0) = true := by rw [hy]; rfl
                  have b3 : (x != 0) = false := by rw [HR1.out.2 hy]; rfl
                  clear hy
                  go_wp2
                  go_round
                  case rel => exact ⟨j + 1, by omega, by go_num, by rw [hst.out, dx.out]⟩
                  case measure => simp [intOf]; omega
                · have b2 : (y == 0) = false := by simpa using hy
                  clear hy
                  go_wp2
                  go_round
                  case rel => exact ⟨j + 1, by omega, by go_num, by rw [hst.out, dx.out]⟩
                  case measure => simp [intOf]; omega
            · clear r1 r2
              go_wp2
              go_round
              case rel => exact ⟨j + 1, by omega, by go_num, by rw [hst.out, dx.out]⟩
              case measure => simp [intOf]; omega
          · obtain rfl : j = S.length := by omega
            rw [List.take_length, Q4.out]
            clear hj0 hjl hj
            by_cases hpos : 0 < Sh.sum l
            · rw [if_pos hpos]
              go_wp2_with (first | (go_at_call 18; refine (awake01_any _).mono ?_; rintro e w9 ⟨rfl, hb9⟩))
              go_ret
              exact ⟨rfl, bnext hbel2.out hbel2.out.size hb9⟩
            · rw [if_neg hpos]
              by_cases ht : t = 0
              · have b1 : (t == 0) = true := by rw [ht]; rfl
                have b2 : ((0 : Int) == t) = true := by rw [ht]; rfl
                clear ht
                go_wp2_with (first | (go_at_call 18; refine (awake01_any _).mono ?_; rintro e w9 ⟨rfl, hb9⟩))
                go_ret
                exact ⟨rfl, bnext hbel2.out hbel2.out.size hb9⟩
              · have b1 : (t == 0) = false := by simpa using ht
                have b2 : ((0 : Int) == t) = false := by simp; omega
                clear ht
                go_wp2_with (first | (go_at_call 18; refine (awake01_any _).mono ?_; rintro e w9 ⟨rfl, hb9⟩))
                go_ret
                exact ⟨rfl, bnext hbel2.out hbel2.out.size hb9⟩

end Go.Proofs.Ytlmikbjnibiajaa
