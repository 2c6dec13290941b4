/-
  PACKED (pack8.py): what is needed of the texts Dv.
-/
import Derived.Test.YtmlfcpglhipjgaaGreatM1
set_option maxHeartbeats 2000000
open Go.Value renaming int → I
open Go.IntKind renaming i64 → O
namespace Go.Proofs.YtmlfcpglhipjgaaGreat
open Go.RowKit
def LzSaid : Prop := ∀ (y : Int) (w : World), 1 ≤ y → y < 18446744073709551616 → Calls Tryz.prog 213 #[.int .u64 y] w fun e w' => e = .returned (I O (Kn.lz y : Int)) ∧ w = w'
theorem div64_zero (lo y : Int) (w : World) (h1 : 0 < y) (h2 : y < 18446744073709551616) (h3 : 0 ≤ lo) (h4 : lo < 18446744073709551616) :
  Calls Tryz.prog 187 #[.int .u64 0, .int .u64 lo, .int .u64 y] w fun e w' => e = .returned (.tuple #[.int .u64 (lo / y), .int .u64 (lo % y)]) ∧ ∃ n, w' = w.drewN n := by
 have hy : (y == 0) = false := by rw [beq_eq_false_iff_ne]; omega
 have hd : IntKind.u64.wrap (lo / y) = lo / y := IntWalk.u64_in _ ⟨Int.ediv_nonneg h3 (by omega), by have := Int.ediv_le_self y h3; omega⟩; have hd2 : IntKind.u64.wrap (lo % y) = lo % y := IntWalk.u64_in _ ⟨Int.emod_nonneg _ (by omega), by have := Int.emod_lt_of_pos lo h1; omega⟩
 go_enter Tryz.func187, Tryz.ntmps187
 go_wp2
 go_quiet (fail)
 go_wp2
 go_ret2
 exact ⟨rfl, _, rfl⟩
theorem div64_pos (hL : LzSaid) (hi lo y : Int) (w : World) (h0 : 0 < hi) (h1 : hi < y) (h2 : y < 18446744073709551616) (h3 : 0 ≤ lo) (h4 : lo < 18446744073709551616) :
  Calls Tryz.prog 187 #[.int .u64 hi, .int .u64 lo, .int .u64 y] w fun e w' => e = .returned (.tuple #[.int .u64 ((hi * 18446744073709551616 + lo) / y), .int .u64 ((hi * 18446744073709551616 + lo) % y)]) ∧ ∃ n, w' = w.drewN n := by
 obtain ⟨s1, s2, s3, s4⟩ := Kn.lz_spec (show 1 ≤ y by omega) h2; obtain ⟨j1, j2, j3, j4, j5⟩ := Kn.or_join hi lo y (Kn.lz y) s1 (by omega) h1 s4 h3 h4; have hz := hL y w (by omega) h2; generalize hs : Kn.lz y = s at *; clear hs s2; have eY : IntKind.u64.wrap (y * 2 ^ s) = y * 2 ^ s := IntWalk.u64_in _ ⟨by omega, by omega⟩; have eL0 : 0 ≤ IntKind.u64.wrap (lo * 2 ^ s) := by rw [IntKind.wrap_u64]; omega
 have eL1 : IntKind.u64.wrap (lo * 2 ^ s) < 18446744073709551616 := by rw [IntKind.wrap_u64]; omega
 have eA1 := Kn.and_mask (y * 2 ^ s) (by omega) s4; have eA2 := Kn.and_mask _ eL0 eL1; have e64 : (64 - (s : Int)).toNat = 64 - s := by omega
 have hd1 := Kn.shifted (n := hi * 18446744073709551616 + lo) (y := y) (k := 2 ^ s) (Kn.pow_pos s); rw [← j5] at hd1; generalize hl : IntKind.u64.wrap (lo * 2 ^ s) = un10 at *; generalize hu : hi * 2 ^ s + lo / 2 ^ (64 - s) = un32 at *; generalize hY : y * 2 ^ s = Y at *; have G1 := Kn.digit s3 s4 j3 j4 (c := un10 / 4294967296) (by omega) (by omega); have W1 := Kn.whole (u := un32) (a := un10 / 4294967296) (b := un10 % 4294967296) G1.pos; have e10 : un10 / 4294967296 * 4294967296 + un10 % 4294967296 = un10 := by omega
 rw [e10] at W1; have G2 := Kn.digit s3 s4 (u := (un32 * 4294967296 + un10 / 4294967296) % Y) (Int.emod_nonneg _ (by omega)) (Int.emod_lt_of_pos _ (by omega)) (c := un10 % 4294967296) (by omega) (by omega); have bQ1 := G1.q_nonneg; have bQ1' := G1.q_lt; have bQ0 := G2.q_nonneg; have bQ0' := G2.q_lt; have r1 := G1.rest; have r2 := G2.rest; have st1 := G1.start; have st2 := G2.start; have f1 := G1.first
 have f2 := G2.first
 rw [← hd1.1, ← hd1.2, W1.1, W1.2]; clear hd1 W1 e10 j5 hu; have by1 := G1.h1; have by1' := G1.h1'; have by0 := G1.h0; have by0' := G1.h0'; have bc1 := G1.hc; have bc1' := G1.hc'; have bc0 := G2.hc; have bc0' := G2.hc'; have bu1 := G1.hu; have bu2 := G2.hu; have bu2' := G2.hu'; generalize hy1 : Y / 4294967296 = y1 at *; generalize hc1 : un10 / 4294967296 = c1 at *; generalize hc0 : un10 % 4294967296 = c0 at *; generalize hy0 : Y % 4294967296 = y0 at *; generalize hu21 : (un32 * 4294967296 + c1) % Y = u21 at *; generalize hQ1 : (un32 * 4294967296 + c1) / Y = Q1 at *; generalize hQ0 : (u21 * 4294967296 + c0) / Y = Q0 at *; generalize hm2 : (u21 * 4294967296 + c0) % Y = m2 at *; generalize hr1 : un32 - un32 / y1 * y1 = r10 at *; generalize hr2 : u21 - u21 / y1 * y1 = r20 at *; generalize hq1 : un32 / y1 = q10 at *; generalize hq2 : u21 / y1 = q20 at *; have H1 := mh (And.intro hu21 (And.intro hQ1 (And.intro hQ0 hm2))); have HL := mh hz; clear hu21 hQ1 hQ0 hm2 hr1 hr2 hz; have b1 := st1.hr; have b2 := st1.hr'; have b3 := st1.hq'; have b4 := st1.hq; have b5 := st2.hr; have b6 := st2.hr'; have b7 := st2.hq'; have b8 := st2.hq; rw [H1.out.2.1] at b4; rw [H1.out.2.2.1] at b8; have hyB : (y == 0) = false := by rw [beq_eq_false_iff_ne]; omega
 have hhB : (hi == 0) = false := by rw [beq_eq_false_iff_ne]; omega
 have hyn : ¬ y1 = 0 := by omega
 go_enter Tryz.func187, Tryz.ntmps187
 go_wp2_with (go_at_call 213; refine (HL.out).mono ?_; rintro e w' ⟨rfl, rfl⟩)
 go_loop [15, 16] (fun q r => ∃ a b : Int, q = .int .u64 a ∧ r = .int .u64 b ∧ Kn.Inv Y y1 y0 un32 c1 a b) (fun q _ => (intOf q).toNat)
 case atStart => exact ⟨_, _, rfl, rfl, by rw [hq1]; exact st1⟩
 case round =>
  obtain ⟨a, b, rfl, rfl, k⟩ := hrel; have k1 := k.hq; rw [H1.out.2.1] at k1; have k2 := k.hq'; have k3 := k.hr; have k4 := k.hr'; have kw := k.ways G1; rw [H1.out.2.1] at kw; have km := k.mul G1 (by omega)
  rcases kw with ⟨t1, t2, t3⟩ | ⟨t1, t2, t3, t4⟩ | ⟨t1, t2, t3⟩ | ⟨t1, t2, t3, t4⟩ | ⟨t1, t2, t3⟩
  ·have T := mh t3
   clear km k t3
   go_wp2
   go_round
   case rel => first | exact T.out | exact ⟨a - 1, b + y1, rfl, rfl, T.out⟩
   case measure => simp [intOf]; omega
  ·replace km := km t1
   have p1 := t4.hq; rw [H1.out.2.1] at p1; have T := mh t4; clear k t4
   go_wp2
   go_round
   case rel => first | exact T.out | exact ⟨a - 1, b + y1, rfl, rfl, T.out⟩
   case measure => simp [intOf]; omega
  ·clear km k
   go_wp2
   go_loop [18, 16] (fun q r => ∃ a b : Int, q = .int .u64 a ∧ r = .int .u64 b ∧ Kn.Inv Y y1 y0 u21 c0 a b) (fun q _ => (intOf q).toNat)
   case atStart => exact ⟨_, _, rfl, rfl, st2⟩
   case round =>
    obtain ⟨a', b', rfl, rfl, k'⟩ := hrel; have k1' := k'.hq; rw [H1.out.2.2.1] at k1'; have k2' := k'.hq'; have k3' := k'.hr; have k4' := k'.hr'; have kw' := k'.ways G2; rw [H1.out.2.2.1] at kw'; have km' := k'.mul G2 (by omega)
    rcases kw' with ⟨t1', t2', t3'⟩ | ⟨t1', t2', t3', t4'⟩ | ⟨t1', t2', t3'⟩ | ⟨t1', t2', t3', t4'⟩ | ⟨t1', t2', t3'⟩
    ·have T := mh t3'
     clear km' k' t3'
     go_wp2
     go_round
     case rel => first | exact T.out | exact ⟨a' - 1, b' + y1, rfl, rfl, T.out⟩
     case measure => simp [intOf]; omega
    ·replace km' := km' t1'
     have p1' := t4'.hq; rw [H1.out.2.2.1] at p1'; have T := mh t4'; clear k' t4'
     go_wp2
     go_round
     case rel => first | exact T.out | exact ⟨a' - 1, b' + y1, rfl, rfl, T.out⟩
     case measure => simp [intOf]; omega
    ·clear km' k'
     go_wp2
     go_ret2
     exact ⟨rfl, 0, rfl⟩
    ·replace km' := km' t1'
     clear k'
     go_wp2
     go_ret2
     exact ⟨rfl, 0, rfl⟩
    ·subst t3'
     replace km' := km' t1'
     clear k'
     go_wp2
     go_ret2
     exact ⟨rfl, 0, rfl⟩
  ·replace km := km t1
   clear k
   go_wp2
   go_loop [18, 16] (fun q r => ∃ a b : Int, q = .int .u64 a ∧ r = .int .u64 b ∧ Kn.Inv Y y1 y0 u21 c0 a b) (fun q _ => (intOf q).toNat)
   case atStart => exact ⟨_, _, rfl, rfl, st2⟩
   case round =>
    obtain ⟨a', b', rfl, rfl, k'⟩ := hrel; have k1' := k'.hq; rw [H1.out.2.2.1] at k1'; have k2' := k'.hq'; have k3' := k'.hr; have k4' := k'.hr'; have kw' := k'.ways G2; rw [H1.out.2.2.1] at kw'; have km' := k'.mul G2 (by omega)
    rcases kw' with ⟨t1', t2', t3'⟩ | ⟨t1', t2', t3', t4'⟩ | ⟨t1', t2', t3'⟩ | ⟨t1', t2', t3', t4'⟩ | ⟨t1', t2', t3'⟩
    ·have T := mh t3'
     clear km' k' t3'
     go_wp2
     go_round
     case rel => first | exact T.out | exact ⟨a' - 1, b' + y1, rfl, rfl, T.out⟩
     case measure => simp [intOf]; omega
    ·replace km' := km' t1'
     have p1' := t4'.hq; rw [H1.out.2.2.1] at p1'; have T := mh t4'; clear k' t4'
     go_wp2
     go_round
     case rel => first | exact T.out | exact ⟨a' - 1, b' + y1, rfl, rfl, T.out⟩
     case measure => simp [intOf]; omega
    ·clear km' k'
     go_wp2
     go_ret2
     exact ⟨rfl, 0, rfl⟩
    ·replace km' := km' t1'
     clear k'
     go_wp2
     go_ret2
     exact ⟨rfl, 0, rfl⟩
    ·subst t3'
     replace km' := km' t1'
     clear k'
     go_wp2
     go_ret2
     exact ⟨rfl, 0, rfl⟩
  ·subst t3
   replace km := km t1
   clear k
   go_wp2
   go_loop [18, 16] (fun q r => ∃ a b : Int, q = .int .u64 a ∧ r = .int .u64 b ∧ Kn.Inv Y y1 y0 u21 c0 a b) (fun q _ => (intOf q).toNat)
   case atStart => exact ⟨_, _, rfl, rfl, st2⟩
   case round =>
    obtain ⟨a', b', rfl, rfl, k'⟩ := hrel; have k1' := k'.hq; rw [H1.out.2.2.1] at k1'; have k2' := k'.hq'; have k3' := k'.hr; have k4' := k'.hr'; have kw' := k'.ways G2; rw [H1.out.2.2.1] at kw'; have km' := k'.mul G2 (by omega)
    rcases kw' with ⟨t1', t2', t3'⟩ | ⟨t1', t2', t3', t4'⟩ | ⟨t1', t2', t3'⟩ | ⟨t1', t2', t3', t4'⟩ | ⟨t1', t2', t3'⟩
    ·have T := mh t3'
     clear km' k' t3'
     go_wp2
     go_round
     case rel => first | exact T.out | exact ⟨a' - 1, b' + y1, rfl, rfl, T.out⟩
     case measure => simp [intOf]; omega
    ·replace km' := km' t1'
     have p1' := t4'.hq; rw [H1.out.2.2.1] at p1'; have T := mh t4'; clear k' t4'
     go_wp2
     go_round
     case rel => first | exact T.out | exact ⟨a' - 1, b' + y1, rfl, rfl, T.out⟩
     case measure => simp [intOf]; omega
    ·clear km' k'
     go_wp2
     go_ret2
     exact ⟨rfl, 0, rfl⟩
    ·replace km' := km' t1'
     clear k'
     go_wp2
     go_ret2
     exact ⟨rfl, 0, rfl⟩
    ·subst t3'
     replace km' := km' t1'
     clear k'
     go_wp2
     go_ret2
     exact ⟨rfl, 0, rfl⟩
theorem div64_any (hL : LzSaid) (hi lo y : Int) (w : World) (h0 : 0 ≤ hi) (h1 : hi < y) (h2 : y < 18446744073709551616) (h3 : 0 ≤ lo) (h4 : lo < 18446744073709551616) :
  Calls Tryz.prog 187 #[.int .u64 hi, .int .u64 lo, .int .u64 y] w fun e w' => e = .returned (.tuple #[.int .u64 ((hi * 18446744073709551616 + lo) / y), .int .u64 ((hi * 18446744073709551616 + lo) % y)]) ∧ ∃ n, w' = w.drewN n := by
 by_cases hz : hi = 0
 ·subst hz
  rw [Int.zero_mul, Int.zero_add]; exact div64_zero lo y w h1 h2 h3 h4
 ·exact div64_pos hL hi lo y w (by omega) h1 h2 h3 h4
end Go.Proofs.YtmlfcpglhipjgaaGreat
