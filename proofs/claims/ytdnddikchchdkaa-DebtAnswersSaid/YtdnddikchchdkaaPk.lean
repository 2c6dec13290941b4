/-
  PLAIN: the long division of 128 by 64 bits, one digit of 32 bits at a time: a guess that is at most two too great, corrected downwards, is the quotient.
-/
import Derived.WalkKit
import Derived.Lib.ItoaNum
import Derived.Laws.BitsAllLaws
namespace Go.Proofs.Ytdnddikchchdkaa.Kn

/-- What a digit is looked for in: Y = y1 B + y0 with its top bit set, u less than Y, c the next digit. -/
structure Digit (Y y1 y0 u c : Int) : Prop where
  hY : Y = y1 * 4294967296 + y0
  h0 : 0 ≤ y0
  h0' : y0 < 4294967296
  h1 : 2147483648 ≤ y1
  h1' : y1 < 4294967296
  hu : 0 ≤ u
  hu' : u < Y
  hc : 0 ≤ c
  hc' : c < 4294967296

/-- The guess q and its rest r, at the head of each round. -/
structure Inv (Y y1 y0 u c q r : Int) : Prop where
  he : u = q * y1 + r
  hr : 0 ≤ r
  hr' : r < 4294967296
  hq : (u * 4294967296 + c) / Y ≤ q
  hq' : q ≤ 4294967297

variable {Y y1 y0 u c q r : Int}

theorem Digit.pos (h : Digit Y y1 y0 u c) : 0 < Y := by have := h.hY; have := h.h1; have := h.h0; omega

theorem Digit.q_nonneg (h : Digit Y y1 y0 u c) : 0 ≤ (u * 4294967296 + c) / Y := Int.ediv_nonneg (by have := h.hu; have := h.hc; omega) (Int.le_of_lt h.pos)

theorem Digit.q_lt (h : Digit Y y1 y0 u c) : (u * 4294967296 + c) / Y < 4294967296 := by
  rw [Int.ediv_lt_iff_lt_mul h.pos]
  have := h.hu'; have := h.hc'
  omega

/-- q is the quotient if q Y is at most the number and the quotient is at most q. -/
theorem Digit.is (h : Digit Y y1 y0 u c) (hq : (u * 4294967296 + c) / Y ≤ q) (hm : q * Y ≤ u * 4294967296 + c) : (u * 4294967296 + c) / Y = q :=
  Int.le_antisymm hq ((Int.le_ediv_iff_mul_le h.pos).2 hm)

theorem Digit.less (h : Digit Y y1 y0 u c) (hm : u * 4294967296 + c < q * Y) : (u * 4294967296 + c) / Y ≤ q - 1 := by
  have := (Int.ediv_lt_iff_lt_mul h.pos).2 hm
  omega

theorem Digit.start (h : Digit Y y1 y0 u c) : Inv Y y1 y0 u c (u / y1) (u - u / y1 * y1) := by
  have hp : 0 < y1 := by have := h.h1; omega
  have e1 : u / y1 * y1 ≤ u := Int.ediv_mul_le u (by omega)
  have e2 : u < u / y1 * y1 + y1 := by have := Int.lt_ediv_add_one_mul_self u hp; rw [Int.add_mul] at this; omega
  have hq0 : 0 ≤ u / y1 := Int.ediv_nonneg h.hu (by omega)
  refine ⟨by omega, by omega, by have := h.h1'; omega, ?_, ?_⟩
  · rw [Int.le_ediv_iff_mul_le hp]
    have hQ := Int.ediv_mul_le (u * 4294967296 + c) (b := Y) (by have := h.pos; omega)
    have hn := h.q_nonneg
    generalize (u * 4294967296 + c) / Y = Q at *
    rw [h.hY, Int.mul_add] at hQ
    have h3 : 0 ≤ Q * y0 := Int.mul_nonneg hn h.h0
    have h4 : Q * (y1 * 4294967296) = Q * y1 * 4294967296 := by rw [Int.mul_assoc]
    have := h.hc'
    omega
  · have hu' := h.hu'
    rw [h.hY] at hu'
    have := h.h0'
    apply Int.not_lt.1
    intro hlt
    have h5 : 4294967298 * y1 ≤ u / y1 * y1 := Int.mul_le_mul_of_nonneg_right (by omega) (by omega)
    have := h.h1
    omega

theorem Inv.num (h : Digit Y y1 y0 u c) (k : Inv Y y1 y0 u c q r) : q * Y = u * 4294967296 - r * 4294967296 + q * y0 := by
  have := k.he; have := h.hY
  grind

/-- The test holds: the guess is too great. -/
theorem Inv.step (h : Digit Y y1 y0 u c) (k : Inv Y y1 y0 u c q r) (ht : 4294967296 ≤ q ∨ 4294967296 * r + c < q * y0) : (u * 4294967296 + c) / Y ≤ q - 1 := by
  rcases ht with ht | ht
  · have := h.q_lt; omega
  · apply h.less
    rw [k.num h]
    omega

theorem Inv.next (h : Digit Y y1 y0 u c) (k : Inv Y y1 y0 u c q r) (ht : 4294967296 ≤ q ∨ 4294967296 * r + c < q * y0) (hr : r + y1 < 4294967296) : Inv Y y1 y0 u c (q - 1) (r + y1) :=
  ⟨by have := k.he; grind, by have := k.hr; have := h.h1; omega, hr, k.step h ht, by have := k.hq'; omega⟩

/-- The rest has outgrown a digit: the guess is right. -/
theorem Inv.out (h : Digit Y y1 y0 u c) (k : Inv Y y1 y0 u c q r) (ht : 4294967296 ≤ q ∨ 4294967296 * r + c < q * y0) (hr : 4294967296 ≤ r + y1) : (u * 4294967296 + c) / Y = q - 1 := by
  have hs := k.step h ht
  apply h.is hs
  have hn := h.q_nonneg
  have e : (q - 1) * Y = u * 4294967296 - (r + y1) * 4294967296 + (q - 1) * y0 := by have := k.num h; have := h.hY; grind
  have e2 : (q - 1) * y0 ≤ 4294967296 * y0 := Int.mul_le_mul_of_nonneg_right (by have := k.hq'; omega) h.h0
  have := h.h0'; have := h.hc
  omega

theorem Inv.done (h : Digit Y y1 y0 u c) (k : Inv Y y1 y0 u c q r) (_h1 : q < 4294967296) (h2 : q * y0 ≤ 4294967296 * r + c) : (u * 4294967296 + c) / Y = q := by
  apply h.is k.hq
  rw [k.num h]
  omega

/-- What is left, though all the products go round. -/
theorem Digit.rest (h : Digit Y y1 y0 u c) : IntKind.u64.wrap (IntKind.u64.wrap (IntKind.u64.wrap (u * 4294967296) + c) - IntKind.u64.wrap ((u * 4294967296 + c) / Y * Y)) = (u * 4294967296 + c) % Y := by
  have e := Int.emod_add_ediv_mul (u * 4294967296 + c) Y
  have l := Int.emod_lt_of_pos (u * 4294967296 + c) h.pos
  have n := Int.emod_nonneg (u * 4294967296 + c) (b := Y) (by have := h.pos; omega)
  have hb : Y < 18446744073709551616 := by have := h.hY; have := h.h1'; have := h.h0'; omega
  generalize (u * 4294967296 + c) / Y * Y = p at *
  generalize (u * 4294967296 + c) % Y = m at *
  simp only [IntKind.wrap_u64]
  omega

/-- The five ways of a round. -/
theorem Inv.ways (h : Digit Y y1 y0 u c) (k : Inv Y y1 y0 u c q r) :
    (4294967296 ≤ q ∧ r + y1 < 4294967296 ∧ Inv Y y1 y0 u c (q - 1) (r + y1)) ∨
    (q < 4294967296 ∧ 4294967296 * r + c < q * y0 ∧ r + y1 < 4294967296 ∧ Inv Y y1 y0 u c (q - 1) (r + y1)) ∨
    (4294967296 ≤ q ∧ 4294967296 ≤ r + y1 ∧ q - 1 = (u * 4294967296 + c) / Y) ∨
    (q < 4294967296 ∧ 4294967296 * r + c < q * y0 ∧ 4294967296 ≤ r + y1 ∧ q - 1 = (u * 4294967296 + c) / Y) ∨
    (q < 4294967296 ∧ q * y0 ≤ 4294967296 * r + c ∧ q = (u * 4294967296 + c) / Y) := by
  by_cases h1 : 4294967296 ≤ q
  · by_cases h2 : r + y1 < 4294967296
    · exact .inl ⟨h1, h2, k.next h (.inl h1) h2⟩
    · exact .inr (.inr (.inl ⟨h1, by omega, (k.out h (.inl h1) (by omega)).symm⟩))
  · by_cases h3 : 4294967296 * r + c < q * y0
    · by_cases h2 : r + y1 < 4294967296
      · exact .inr (.inl ⟨by omega, h3, h2, k.next h (.inr h3) h2⟩)
      · exact .inr (.inr (.inr (.inl ⟨by omega, h3, by omega, (k.out h (.inr h3) (by omega)).symm⟩)))
    · exact .inr (.inr (.inr (.inr ⟨by omega, by omega, (k.done h (by omega) (by omega)).symm⟩)))

/-- No product in a round goes round. -/
theorem Inv.mul (h : Digit Y y1 y0 u c) (_k : Inv Y y1 y0 u c q r) (hq0 : 0 ≤ q) (hq : q < 4294967296) : IntKind.u64.wrap (q * y0) = q * y0 := by
  have h1 : 0 ≤ q * y0 := Int.mul_nonneg hq0 h.h0
  have h2 : q * y0 ≤ 4294967296 * y0 := Int.mul_le_mul_of_nonneg_right (by omega) h.h0
  have := h.h0'
  exact IntWalk.u64_in _ ⟨by omega, by omega⟩

theorem Digit.first (h : Digit Y y1 y0 u c) : IntKind.u64.wrap (u - IntKind.u64.wrap (u / y1 * y1)) = u - u / y1 * y1 := by
  have hp : 0 < y1 := by have := h.h1; omega
  have e1 : u / y1 * y1 ≤ u := Int.ediv_mul_le u (by omega)
  have hq0 : 0 ≤ u / y1 * y1 := Int.mul_nonneg (Int.ediv_nonneg h.hu (by omega)) (by omega)
  have hb : Y < 18446744073709551616 := by have := h.hY; have := h.h1'; have := h.h0'; omega
  have := h.hu'
  rw [IntWalk.u64_in _ ⟨hq0, by omega⟩, IntWalk.u64_in _ ⟨by omega, by omega⟩]

/-- The whole: two digits. -/
theorem whole {Y u a b : Int} (hY : 0 < Y) : (u * 18446744073709551616 + (a * 4294967296 + b)) / Y = (u * 4294967296 + a) / Y * 4294967296 + ((u * 4294967296 + a) % Y * 4294967296 + b) / Y ∧ (u * 18446744073709551616 + (a * 4294967296 + b)) % Y = ((u * 4294967296 + a) % Y * 4294967296 + b) % Y := by
  have e := Int.emod_add_ediv_mul (u * 4294967296 + a) Y
  generalize (u * 4294967296 + a) / Y = p at *
  generalize (u * 4294967296 + a) % Y = m at *
  have e2 : u * 18446744073709551616 + (a * 4294967296 + b) = (m * 4294967296 + b) + (p * 4294967296) * Y := by grind
  rw [e2, Int.add_mul_ediv_right _ _ (by omega), Int.add_mul_emod_self_right]
  exact ⟨by omega, rfl⟩

/-- A shift of both leaves the quotient and shifts the rest. -/
theorem shifted {n y k : Int} (hk : 0 < k) : n * k / (y * k) = n / y ∧ n * k % (y * k) / k = n % y := by
  refine ⟨Int.mul_ediv_mul_of_pos_left _ _ hk, ?_⟩
  rw [Int.mul_comm n k, Int.mul_comm y k, Int.mul_emod_mul_of_pos _ _ hk]
  exact Int.mul_ediv_cancel_left _ (by omega)


/-- How far y is shifted up. -/
def lz (y : Int) : Nat := 64 - Lib.bitLen y.toNat

theorem lz_spec {y : Int} (h1 : 1 ≤ y) (h2 : y < 18446744073709551616) : lz y < 64 ∧ (64 - (Lib.bitLen y.toNat : Int)) = (lz y : Int) ∧ 9223372036854775808 ≤ y * 2 ^ lz y ∧ y * 2 ^ lz y < 18446744073709551616 := by
  obtain ⟨n, rfl⟩ := Int.eq_ofNat_of_zero_le (show 0 ≤ y by omega)
  have hn : n < 2 ^ 64 := by omega
  obtain ⟨b1, b2, b3⟩ := Lib.bitLenAux_bounds 64 n hn (by omega)
  have b4 := Lib.bitLen_le n 64 (Nat.le_refl _) hn
  change 1 ≤ Lib.bitLen n at b1
  change 2 ^ (Lib.bitLen n - 1) ≤ n at b2
  change n < 2 ^ Lib.bitLen n at b3
  unfold lz
  rw [Int.toNat_natCast]
  generalize Lib.bitLen n = k at *
  have e1 : 2 ^ (k - 1) * 2 ^ (64 - k) = 9223372036854775808 := by rw [← Nat.pow_add, show k - 1 + (64 - k) = 63 by omega]
  have e2 : 2 ^ k * 2 ^ (64 - k) = 18446744073709551616 := by rw [← Nat.pow_add, show k + (64 - k) = 64 by omega]
  have m1 : 2 ^ (k - 1) * 2 ^ (64 - k) ≤ n * 2 ^ (64 - k) := Nat.mul_le_mul_right _ b2
  have m2 : n * 2 ^ (64 - k) < 2 ^ k * 2 ^ (64 - k) := Nat.mul_lt_mul_of_pos_right b3 (Nat.two_pow_pos _)
  have c : ((n * 2 ^ (64 - k) : Nat) : Int) = (n : Int) * 2 ^ (64 - k) := by simp
  exact ⟨by omega, by omega, by omega, by omega⟩

theorem pow_split (s : Nat) (h : s ≤ 64) : (2 : Int) ^ s * 2 ^ (64 - s) = 18446744073709551616 := by
  rw [← Int.pow_add, show s + (64 - s) = 64 by omega]; rfl

theorem pow_pos (s : Nat) : 0 < (2 : Int) ^ s := Int.pow_pos (by omega)

theorem and_mask (n : Int) (h0 : 0 ≤ n) (h1 : n < 18446744073709551616) : bits BinOp.and IntKind.u64 n 4294967295 = n % 4294967296 := by
  rw [u64_and n 4294967295 h0 h1 (by omega) (by omega)]
  obtain ⟨k, rfl⟩ := Int.eq_ofNat_of_zero_le h0
  rw [Int.toNat_natCast, show (4294967295 : Int).toNat = 2 ^ 32 - 1 from rfl, Nat.and_two_pow_sub_one_eq_mod]
  omega

/-- The upper word of the shifted number. -/
theorem or_join (hi lo y : Int) (s : Nat) (hs : s < 64) (h0 : 0 ≤ hi) (h1 : hi < y) (h2 : y * 2 ^ s < 18446744073709551616) (h3 : 0 ≤ lo) (h4 : lo < 18446744073709551616) :
    IntKind.u64.wrap (hi * 2 ^ s) = hi * 2 ^ s ∧ bits BinOp.or IntKind.u64 (hi * 2 ^ s) (lo / 2 ^ (64 - s)) = hi * 2 ^ s + lo / 2 ^ (64 - s) ∧
    0 ≤ hi * 2 ^ s + lo / 2 ^ (64 - s) ∧ hi * 2 ^ s + lo / 2 ^ (64 - s) < y * 2 ^ s ∧
    (hi * 2 ^ s + lo / 2 ^ (64 - s)) * 18446744073709551616 + IntKind.u64.wrap (lo * 2 ^ s) = (hi * 18446744073709551616 + lo) * 2 ^ s := by
  have hp := pow_pos s
  have hq := pow_pos (64 - s)
  have hm := pow_split s (by omega)
  have a1 : 0 ≤ hi * 2 ^ s := Int.mul_nonneg h0 (by omega)
  have a2 : (hi + 1) * 2 ^ s ≤ y * 2 ^ s := Int.mul_le_mul_of_nonneg_right (by omega) (by omega)
  rw [Int.add_mul, Int.one_mul] at a2
  have d0 : 0 ≤ lo / 2 ^ (64 - s) := Int.ediv_nonneg h3 (by omega)
  have d1 : lo / 2 ^ (64 - s) < 2 ^ s := by rw [Int.ediv_lt_iff_lt_mul hq, hm]; exact h4
  refine ⟨IntWalk.u64_in _ ⟨a1, by omega⟩, ?_, by omega, by omega, ?_⟩
  · rw [u64_or _ _ a1 (by omega) d0 (by omega), nat_join s]
    · omega
    · have e : ((2 ^ s : Nat) : Int) = (2 : Int) ^ s := by simp
      have : (((hi * 2 ^ s).toNat % 2 ^ s : Nat) : Int) = 0 := by rw [Int.natCast_emod, Int.toNat_of_nonneg a1, e]; exact Int.mul_emod_left _ _
      omega
    · have e : ((2 ^ s : Nat) : Int) = (2 : Int) ^ s := by simp
      omega
  · rw [IntKind.wrap_u64]
    have e1 := Int.emod_add_ediv_mul lo (2 ^ (64 - s))
    generalize hA : lo / 2 ^ (64 - s) = A at *
    have n1 := Int.emod_nonneg lo (b := 2 ^ (64 - s)) (by omega)
    have n2 := Int.emod_lt_of_pos lo hq
    generalize lo % 2 ^ (64 - s) = m at *
    have e2 : lo * 2 ^ s = m * 2 ^ s + A * 18446744073709551616 := by rw [← hm, ← e1, Int.add_mul]; congr 1; rw [Int.mul_assoc, Int.mul_comm (2 ^ (64 - s)) (2 ^ s)]
    have n3 : 0 ≤ m * 2 ^ s := Int.mul_nonneg n1 (by omega)
    have n4 : m * 2 ^ s < 2 ^ (64 - s) * 2 ^ s := Int.mul_lt_mul_of_pos_right n2 hp
    rw [Int.mul_comm (2 ^ (64 - s)), hm] at n4
    rw [Int.add_mul (hi * 18446744073709551616)]
    have e3 : hi * 18446744073709551616 * 2 ^ s = hi * 2 ^ s * 18446744073709551616 := by rw [Int.mul_assoc, Int.mul_comm 18446744073709551616, Int.mul_assoc]
    rw [e3, e2]
    generalize m * 2 ^ s = M at *
    generalize hi * 2 ^ s = H at *
    omega

/-- A number with its top bit set has two digits that serve. -/
theorem digit {Y u c : Int} (h1 : 9223372036854775808 ≤ Y) (h2 : Y < 18446744073709551616) (hu : 0 ≤ u) (hu' : u < Y) (hc : 0 ≤ c) (hc' : c < 4294967296) :
    Digit Y (Y / 4294967296) (Y % 4294967296) u c := ⟨by omega, by omega, by omega, by omega, by omega, hu, hu', hc, hc'⟩

end Go.Proofs.Ytdnddikchchdkaa.Kn
