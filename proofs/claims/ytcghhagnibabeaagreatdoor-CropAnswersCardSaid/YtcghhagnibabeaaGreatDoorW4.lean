/-
  THE WALK over the reference's Decimal.
-/
import Derived.Test.YtcghhagnibabeaaGreatDoorW2
import Derived.Deep.RegionHeld3
import Derived.Deep.QuietTactic
namespace Go.Proofs.YtcghhagnibabeaaGreatDoor
open Go.RowKit

theorem ret_str {a b : ByteArray} (h : a = b) : Ending.returned (.string a) = .returned (.string b) := by rw [h]

theorem itoa_small {n : Int} (h0 : 0 ≤ n) (h : n < 10) : Lib.itoa n = [Wo.dch (n.toNat)] := by
  unfold Lib.itoa
  rw [if_neg (by omega), Lib.decDigits, dif_pos (by omega)]
  rfl

theorem conv1 (W : World) (b d : Nat) (hd : d < 10) (h : W.cell? ⟨b, 0, none⟩ = some (.int .u8 (48 + (d : Int)))) : (convert 47 9 (.slice (some ⟨b, 0, none⟩) 1 1)).run Tryz.prog W = .ok (.string ⟨#[Wo.dch (d)]⟩) W := by
  have e : (Wo.dch d).toNat = 48 + d := Wo.dig_toNat d hd
  have := run_convert_bytes_back (P := Tryz.prog) W 47 9 5 ⟨b, 0, none⟩ 1 [Wo.dch (d)] Tryz.underlying47 Tryz.underlying5 Tryz.underlying9 (fun j hj => by
    match j, hj with
    | 0, _ =>
      show W.cell? ⟨b, 0, none⟩ = some (.int .u8 (((Wo.dch (d)).toNat : Nat) : Int))
      rw [h, e]; simp)
  exact this

theorem app1 (l : List UInt8) (c : UInt8) : (⟨l.toArray⟩ : ByteArray) ++ ⟨#[c]⟩ = ⟨(l ++ [c]).toArray⟩ := by rw [ByteArray.mk_append_mk]

theorem itoa_big {n : Int} (h : 10 ≤ n) : Lib.itoa n = Lib.itoa (n / 10) ++ [Wo.dch ((n % 10).toNat)] := by
  unfold Lib.itoa
  rw [if_neg (by omega), if_neg (by omega), Lib.decDigits, dif_neg (by omega)]
  have e1 : n.toNat / 10 = (n / 10).toNat := by omega
  have e2 : n.toNat % 10 = (n % 10).toNat := by omega
  rw [e1, e2]
  rfl

theorem itoa_neg1 {u : Nat} (h0 : 0 < u) (h : u < 10) : Lib.itoa (-(u : Int)) = [45, Wo.dch u] := by
  unfold Lib.itoa
  rw [if_pos (by omega), show (-(u : Int)).natAbs = u by omega, Lib.decDigits, dif_pos h]
  rfl

theorem itoa_neg2 {u : Nat} (h : 10 ≤ u) : Lib.itoa (-(u : Int)) = Lib.itoa (-((u / 10 : Nat) : Int)) ++ [Wo.dch (u % 10)] := by
  unfold Lib.itoa
  rw [if_pos (by omega), if_pos (by omega), show (-(u : Int)).natAbs = u by omega, show (-((u / 10 : Nat) : Int)).natAbs = u / 10 by omega, Lib.decDigits, dif_neg (by omega)]
  rfl

set_option maxRecDepth 100000 in
set_option maxHeartbeats 400000 in
theorem refdecimal_any (N : Nat) : ∀ (n : Int) (w : World), n.natAbs < N → -9223372036854775808 ≤ n → n ≤ 9223372036854775807 → Calls Tryz.prog 42 #[.int .i64 n] w (DecGive n w) := by
  induction N with
  | zero => intro n w h; omega
  | succ N ih =>
    intro n w h h0 h1
    by_cases hn : n < 0
    · by_cases h10 : -10 < n
      · obtain ⟨d, rfl⟩ : ∃ d : Nat, n = -(d : Int) := ⟨n.natAbs, by omega⟩
        have HS := Lib.hid (itoa_neg1 (u := d) (by omega) (by omega))
        have hb : IntKind.u8.wrap (48 + (d : Int)) = 48 + d := by rw [IntWalk.u8_in]; omega
        have hq2 : (-(d : Int)).tmod 10 = -(d : Int) := by rw [Int.neg_tmod, Int.tmod_eq_emod_of_nonneg (by omega)]; omega
        have CV := conv1 (w.alloc (Obj.cells #[.int .u8 (48 + (d : Int))] 5)) w.heap.size d (by omega) (by go_simp)
        clear ih h h0 h1
        go_enter Tryz.func42, Tryz.ntmps42
        go_wp2
        go_ret
        exact ⟨ret_str (by rw [HS.out]; rfl), (Below.refl _ _).alloc (Nat.le_refl _) _⟩
      · obtain ⟨q, m, rfl, hm10⟩ : ∃ q m : Nat, n = -((10 * q + m : Nat) : Int) ∧ m < 10 := ⟨n.natAbs / 10, n.natAbs % 10, by omega, by omega⟩
        have hd : Lib.itoa (-((10 * q + m : Nat) : Int)) = Lib.itoa (-(q : Int)) ++ [Wo.dch m] := by
          rw [itoa_neg2 (by omega), show (10 * q + m) / 10 = q by omega, show (10 * q + m) % 10 = m by omega]
        have HI := Lib.hid (fun (W : World) => ih (-(q : Int)) W (by omega) (by omega) (by omega))
        obtain ⟨sq, esq⟩ : ∃ x : ByteArray, (⟨(Lib.itoa (-(q : Int))).toArray⟩ : ByteArray) = x := ⟨_, rfl⟩
        have hsz : sq.size + 1 ≤ 9223372036854775807 := by
          have := (Wo.itoa_len20 (-(q : Int)) (by omega) (by omega)).2
          rw [← esq]; show (Lib.itoa (-(q : Int))).toArray.size + 1 ≤ _; simp; omega
        have ES := Lib.hid esq
        clear esq
        have HF := Lib.hid (show sq ++ ⟨#[Wo.dch m]⟩ = ⟨(Lib.itoa (-((10 * q + m : Nat) : Int))).toArray⟩ by rw [hd, ← ES.out, app1])
        have hq1 : (-((10 * q + m : Nat) : Int)).tdiv 10 = -(q : Int) := by rw [Int.neg_tdiv, Int.tdiv_eq_ediv_of_nonneg (by omega)]; omega
        have hq2 : (-((10 * q + m : Nat) : Int)).tmod 10 = -(m : Int) := by rw [Int.neg_tmod, Int.tmod_eq_emod_of_nonneg (by omega)]; omega
        have hq0 : (0 : Int) ≤ q := by omega
        obtain ⟨n, en⟩ : ∃ n : Int, -((10 * q + m : Nat) : Int) = n := ⟨_, rfl⟩
        have hb : IntKind.u8.wrap (48 + (m : Int)) = 48 + m := by rw [IntWalk.u8_in]; omega
        have hb2 : IntKind.i64.wrap (48 + (m : Int)) = 48 + m := IntWalk.i64_in _ ⟨by omega, by omega⟩
        have hb3 : IntKind.i64.wrap (-(q : Int)) = -(q : Int) := IntWalk.i64_in _ ⟨by omega, by omega⟩
        have hb4 : IntKind.i64.wrap (m : Int) = m := IntWalk.i64_in _ ⟨by omega, by omega⟩
        have hn' : n < 0 := by omega
        have h10' : ¬ -10 < n := by omega
        have CA := conv1 ((w.alloc (Obj.cells #[.int .u8 (48 + (m : Int))] 5)).drew) w.heap.size m hm10 (by go_simp)
        have CH : ((w.alloc (Obj.cells #[.int .u8 (48 + (m : Int))] 5)).drew).cell? ⟨w.heap.size, 0, none⟩ = some (.int .u8 (48 + (m : Int))) := by go_simp
        have HC := Lib.hid CH
        clear CH
        rw [en] at hd hq1 hq2 h0 h1
        rw [en] at HF
        rw [en]
        clear hd ih h en hn h10 h0 h1
        go_enter Tryz.func42, Tryz.ntmps42
        go_wp2_with fail
        go_region_with (first | (go_at_call 42; (with_reducible refine Calls.mono (HI.out w.drew) ?_); rintro e w1 ⟨rfl, hb1⟩; rw [ES.out]; have CW := conv1 (w1.alloc (Obj.cells #[.int .u8 (48 + (m : Int))] 5)) w1.heap.size m hm10 (by go_simp)) | (go_at_call 42; (with_reducible refine Calls.mono (HI.out ((w.alloc (Obj.cells #[.int .u8 (48 + (m : Int))] 5)).drew)) ?_); rintro e w1 ⟨rfl, hb1⟩; rw [ES.out]; have CW := conv1 w1 w.heap.size m hm10 ((hb1.cell (p := ⟨w.heap.size, 0, none⟩) (by simp)).trans HC.out)))
        all_goals
          go_wp2
          go_ret
          refine ⟨ret_str HF.out, ?_⟩
          first
            | exact ((Below.refl _ w).drew.trans (hb1.mono (Nat.le_refl _))).alloc (by have := hb1.size; simpa using this) _
            | exact (((Below.refl _ w).alloc (Nat.le_refl _) _).drew).trans (hb1.mono (by simp))
    · by_cases h10 : n < 10
      · obtain ⟨d, rfl⟩ : ∃ d : Nat, n = d := ⟨n.toNat, by omega⟩
        have HS := Lib.hid (itoa_small (n := d) (by omega) h10)
        have hb : IntKind.u8.wrap (48 + (d : Int)) = 48 + d := by rw [IntWalk.u8_in]; omega
        have CV := conv1 (w.alloc (Obj.cells #[.int .u8 (48 + (d : Int))] 5)) w.heap.size d (by omega) (by go_simp)
        clear ih h h0 h1
        go_enter Tryz.func42, Tryz.ntmps42
        go_wp2
        go_ret
        exact ⟨ret_str (by rw [HS.out]; rfl), (Below.refl _ _).alloc (Nat.le_refl _) _⟩
      · obtain ⟨q, m, rfl, hm10⟩ : ∃ q m : Nat, n = 10 * (q : Int) + m ∧ m < 10 := ⟨(n / 10).toNat, (n % 10).toNat, by omega, by omega⟩
        have hd : Lib.itoa (10 * (q : Int) + m) = Lib.itoa q ++ [Wo.dch m] := by
          rw [itoa_big (by omega), show (10 * (q : Int) + m) / 10 = q by omega, show ((10 * (q : Int) + m) % 10).toNat = m by omega]
        have HI := Lib.hid (fun (W : World) => ih (q : Int) W (by omega) (by omega) (by omega))
        obtain ⟨sq, esq⟩ : ∃ x : ByteArray, (⟨(Lib.itoa q).toArray⟩ : ByteArray) = x := ⟨_, rfl⟩
        have hsz : sq.size + 1 ≤ 9223372036854775807 := by
          have := (Wo.itoa_len20 (q : Int) (by omega) (by omega)).2
          rw [← esq]; show (Lib.itoa (q : Int)).toArray.size + 1 ≤ _; simp; omega
        have ES := Lib.hid esq
        clear esq
        have HF := Lib.hid (show sq ++ ⟨#[Wo.dch m]⟩ = ⟨(Lib.itoa (10 * (q : Int) + m)).toArray⟩ by rw [hd, ← ES.out, app1])
        have hq1 : (10 * (q : Int) + m).tdiv 10 = q := by rw [Int.tdiv_eq_ediv_of_nonneg (by omega)]; omega
        have hq2 : (10 * (q : Int) + m).tmod 10 = m := by rw [Int.tmod_eq_emod_of_nonneg (by omega)]; omega
        have hq0 : (0 : Int) ≤ q := by omega
        obtain ⟨n, en⟩ : ∃ n : Int, 10 * (q : Int) + m = n := ⟨_, rfl⟩
        have hb : IntKind.u8.wrap (48 + (m : Int)) = 48 + m := by rw [IntWalk.u8_in]; omega
        have hb2 : IntKind.i64.wrap (48 + (m : Int)) = 48 + m := IntWalk.i64_in _ ⟨by omega, by omega⟩
        have hb3 : IntKind.i64.wrap (q : Int) = q := IntWalk.i64_in _ ⟨by omega, by omega⟩
        have hb4 : IntKind.i64.wrap (m : Int) = m := IntWalk.i64_in _ ⟨by omega, by omega⟩
        have hn' : ¬ n < 0 := by omega
        have h10' : ¬ n < 10 := by omega
        have CA := conv1 ((w.alloc (Obj.cells #[.int .u8 (48 + (m : Int))] 5)).drew) w.heap.size m hm10 (by go_simp)
        have CH : ((w.alloc (Obj.cells #[.int .u8 (48 + (m : Int))] 5)).drew).cell? ⟨w.heap.size, 0, none⟩ = some (.int .u8 (48 + (m : Int))) := by go_simp
        have HC := Lib.hid CH
        clear CH
        rw [en] at hd hq1 hq2 h0 h1
        rw [en] at HF
        rw [en]
        clear hd ih h en hn h10 h0 h1
        go_enter Tryz.func42, Tryz.ntmps42
        go_wp2_with fail
        go_region_with (first | (go_at_call 42; (with_reducible refine Calls.mono (HI.out w.drew) ?_); rintro e w1 ⟨rfl, hb1⟩; rw [ES.out]; have CW := conv1 (w1.alloc (Obj.cells #[.int .u8 (48 + (m : Int))] 5)) w1.heap.size m hm10 (by go_simp)) | (go_at_call 42; (with_reducible refine Calls.mono (HI.out ((w.alloc (Obj.cells #[.int .u8 (48 + (m : Int))] 5)).drew)) ?_); rintro e w1 ⟨rfl, hb1⟩; rw [ES.out]; have CW := conv1 w1 w.heap.size m hm10 ((hb1.cell (p := ⟨w.heap.size, 0, none⟩) (by simp)).trans HC.out)))
        all_goals
          go_wp2
          go_ret
          refine ⟨ret_str HF.out, ?_⟩
          first
            | exact ((Below.refl _ w).drew.trans (hb1.mono (Nat.le_refl _))).alloc (by have := hb1.size; simpa using this) _
            | exact (((Below.refl _ w).alloc (Nat.le_refl _) _).drew).trans (hb1.mono (by simp))

end Go.Proofs.YtcghhagnibabeaaGreatDoor
