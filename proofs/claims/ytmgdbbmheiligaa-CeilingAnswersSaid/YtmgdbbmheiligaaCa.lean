/-
  THE WALKS over ceiling.money, Check, reduced; ref32.Money, Check.
-/
import Derived.Test.YtmgdbbmheiligaaDi
import Derived.Test.YtmgdbbmheiligaaPc
import Derived.Test.YtmgdbbmheiligaaEr
namespace Go.Proofs.Ytmgdbbmheiligaa
open Go.RowKit

theorem money_any (n : Int) (w : World) : Calls Try.prog 69 #[.int .i64 n] w fun e w' => e = .returned (.bool (En.money n)) ∧ w = w' := by
  by_cases h : 0 ≤ n
  · by_cases h2 : n ≤ 68719476736
    · rw [En.money_iff.2 ⟨h, h2⟩]
      go_enter Try.func69, Try.ntmps69
      go_wp2
      go_ret
      exact ⟨rfl, rfl⟩
    · rw [En.money_not.2 (.inr (by omega))]
      go_enter Try.func69, Try.ntmps69
      go_wp2
      go_ret
      exact ⟨rfl, rfl⟩
  · rw [En.money_not.2 (.inl (by omega))]
    go_enter Try.func69, Try.ntmps69
    go_wp2
    go_ret
    exact ⟨rfl, rfl⟩

theorem refmoney_any (n : Int) (w : World) : Calls Try.prog 70 #[.int .i64 n] w fun e w' => e = .returned (.bool (En.money n)) ∧ w = w' := by
  by_cases h : 0 ≤ n
  · by_cases h2 : n ≤ 68719476736
    · rw [En.money_iff.2 ⟨h, h2⟩]
      go_enter Try.func70, Try.ntmps70
      go_wp2
      go_ret
      exact ⟨rfl, rfl⟩
    · rw [En.money_not.2 (.inr (by omega))]
      go_enter Try.func70, Try.ntmps70
      go_wp2
      go_ret
      exact ⟨rfl, rfl⟩
  · rw [En.money_not.2 (.inl (by omega))]
    go_enter Try.func70, Try.ntmps70
    go_wp2
    go_ret
    exact ⟨rfl, rfl⟩

/-- What makes degree k, (x, y), behind (lx, ly), wrong. -/
theorem okAt_not {D : List (Int × Int)} {k : Nat} {x y lx ly : Int} (h : D.getD k (0, 0) = (x, y)) (hl : k ≠ 0 → D.getD (k - 1) (0, 0) = (lx, ly)) (h0 : k = 0 → lx = 0 ∧ ly = 0)
    (hb : En.money x = false ∨ y < 0 ∨ 1000 < y ∨ y < ly ∨ (0 < k ∧ x ≤ lx)) : ¬ Ce.okAt D k = true := by
  rw [Ce.okAt_iff]
  unfold Ce.fr Ce.mi
  rw [h]
  rw [En.money_not] at hb
  by_cases hk : k = 0
  · obtain ⟨rfl, rfl⟩ := h0 hk
    simp only
    omega
  · rw [hl hk]
    simp only
    omega

theorem okAt_yes {D : List (Int × Int)} {k : Nat} {x y lx ly : Int} (h : D.getD k (0, 0) = (x, y)) (hl : k ≠ 0 → D.getD (k - 1) (0, 0) = (lx, ly))
    (h1 : En.money x = true) (h2 : ¬ y < 0) (h3 : ¬ 1000 < y) (h4 : ¬ y < ly) (h5 : ¬ (0 < k ∧ x ≤ lx)) : Ce.okAt D k = true := by
  rw [Ce.okAt_iff]
  unfold Ce.fr Ce.mi
  rw [h]
  rw [En.money_iff] at h1
  by_cases hk : k = 0
  · simp only
    omega
  · rw [hl hk]
    simp only
    omega

theorem chk_bad {D : List (Int × Int)} {k : Nat} (hk : k < D.length) (h : ¬ Ce.okAt D k = true) : Ce.chk D = 66 := Ce.chk_not fun hR => h (hR.ok k hk)

/-- The loop of Check before round k: 'last' lies in block B. -/
structure ChkAt (w wr : World) (D : List (Int × Int)) (k : Nat) (lx ly : Int) : Prop where
  below : Below w.heap.size w wr
  two : Two wr w.heap.size lx ly
  last : k ≠ 0 → D.getD (k - 1) (0, 0) = (lx, ly)
  first : k = 0 → lx = 0 ∧ ly = 0
  ok : ∀ j, j < k → Ce.okAt D j = true

theorem ChkAt.step {w wr : World} {D : List (Int × Int)} {k : Nat} {lx ly x y : Int} (h : ChkAt w wr D k lx ly) (hxy : D.getD k (0, 0) = (x, y)) (hok : Ce.okAt D k = true) (o : Obj) :
    ChkAt w (((wr.setCell ⟨w.heap.size, 0, none⟩ (.int .i64 x)).setCell ⟨w.heap.size, 1, none⟩ (.int .i64 y)).alloc o) D (k + 1) x y := by
  obtain ⟨lt, c0, c1, f0, f1⟩ := h.two
  refine ⟨?_, ⟨by simp; omega, by go_simp, by go_simp, by go_simp, by go_simp⟩, fun _ => hxy, fun h => absurd h (by omega), fun j hj => ?_⟩
  · exact ((h.below.setCell (p := ⟨w.heap.size, 0, none⟩) (by simp) _).setCell (p := ⟨w.heap.size, 1, none⟩) (by simp) _).alloc (by simp; omega) o
  · by_cases e : j = k
    · rw [e]; exact hok
    · exact h.ok j (by omega)

set_option maxRecDepth 100000 in
set_option maxHeartbeats 4000000 in
theorem check_any (p : Option Addr) (D : List (Int × Int)) (cap : Nat) (w : World) (h : Pairs w p D) :
    Calls Try.prog 36 #[.slice p D.length cap] w fun e w' => e = .returned (.int .i64 (Ce.chk D)) ∧ Below w.heap.size w w' := by
  have hn := h.len
  by_cases h6 : 6 < D.length
  · have hc : Ce.chk D = 66 := Ce.chk_not fun hR => by have := hR.len; omega
    rw [hc]
    clear h
    go_enter Try.func36, Try.ntmps36
    go_wp2
    go_ret
    exact ⟨rfl, Below.refl _ _⟩
  · have H := Lib.hid h
    clear h
    go_enter Try.func36, Try.ntmps36
    go_wp2
    have hst : ChkAt w (w.alloc (Obj.cells #[.int .i64 0, .int .i64 0] 48)) D 0 0 0 :=
      ⟨(Below.refl _ _).alloc (Nat.le_refl _) _, ⟨by simp, by go_simp, by go_simp, by go_simp, by go_simp⟩, fun h => absurd rfl h, fun _ => ⟨rfl, rfl⟩, fun j hj => absurd hj (Nat.not_lt_zero j)⟩
    have HST := Lib.hid hst
    clear hst
    go_loopw [11] (fun i wr => ∃ (k : Nat) (lx ly : Int), k ≤ D.length ∧ i = .int .i64 k ∧ ChkAt w wr D k lx ly) (fun i _ => D.length - (intOf i).toNat)
    case atStart => exact ⟨0, 0, 0, Nat.zero_le _, rfl, HST.out⟩
    case round =>
      clear HST
      obtain ⟨k, lx, ly, hk, rfl, hC⟩ := hrel
      have HC := Lib.hid hC
      by_cases hlt : k < D.length
      · obtain ⟨b, off, x, y, rfl, hbl, hx0, hy0, hxy⟩ := H.out.get hlt
        have hx1 := (hC.below.cell (p := ⟨b, off + k * 2, none⟩) hbl).trans hx0
        have hy1 := (hC.below.cell (p := ⟨b, off + k * 2 + 1, none⟩) hbl).trans hy0
        have c0 := hC.two.c0
        have c1 := hC.two.c1
        have f0 := hC.two.f0
        have f1 := hC.two.f1
        have lt := hC.two.lt
        clear hC hx0 hy0
        go_wp2_with (first | (go_at_call 69; refine (money_any _ _).mono ?_; rintro e w' ⟨rfl, rfl⟩))
        all_goals try (go_ret; exact ⟨by rw [chk_bad hlt (okAt_not hxy.out HC.out.last HC.out.first (by first | exact .inl (Bool.eq_false_iff.2 (by assumption)) | exact .inr (by omega)))]; rfl, HC.out.below.alloc (Nat.le_of_lt HC.out.two.lt) _⟩)
        all_goals try exact ⟨⟨k + 1, x, y, by omega, by go_num, HC.out.step hxy.out (okAt_yes hxy.out HC.out.last (by assumption) (by omega) (by omega) (by omega) (by omega)) _⟩, by simp [intOf]; omega⟩
      · obtain rfl : k = D.length := by omega
        have hc := Lib.hid (show Ce.chk D = 0 from Ce.chk_zero.2 ⟨by omega, HC.out.ok⟩)
        clear hC hlt hk
        go_wp2
        go_ret
        exact ⟨by rw [hc.out]; rfl, HC.out.below⟩

end Go.Proofs.Ytmgdbbmheiligaa
