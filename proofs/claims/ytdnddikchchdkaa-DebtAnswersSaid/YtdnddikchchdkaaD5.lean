/-
  THE WALKS over ref39.copied, debt.Owed, ref39.sum.
-/
import Derived.Test.YtdnddikchchdkaaD4
import Derived.Test.YtdnddikchchdkaaD2
namespace Go.Proofs.Ytdnddikchchdkaa
open Go.RowKit

/-- An account in a block of the call's own. -/
structure BoxA (w : World) (b : Nat) (farm : Int) (p : Option Addr) (n c : Nat) (next : Int) : Prop where
  a0 : w.cell? ⟨b, 0, none⟩ = some (.int .i64 farm)
  a1 : w.cell? ⟨b, 1, none⟩ = some (.slice p n c)
  a2 : w.cell? ⟨b, 2, none⟩ = some (.int .i64 next)
  f0 : w.frozen? ⟨b, 0, none⟩ = false
  f1 : w.frozen? ⟨b, 1, none⟩ = false
  f2 : w.frozen? ⟨b, 2, none⟩ = false
  lt : b < w.heap.size

theorem BoxA.below {w w' : World} {b : Nat} {farm : Int} {p : Option Addr} {n c : Nat} {next : Int} {B : Nat} (h : BoxA w b farm p n c next) (hb : Below B w w') (hB : b < B) : BoxA w' b farm p n c next :=
  ⟨(hb.cell (p := ⟨b, 0, none⟩) hB).trans h.a0, (hb.cell (p := ⟨b, 1, none⟩) hB).trans h.a1, (hb.cell (p := ⟨b, 2, none⟩) hB).trans h.a2, (hb.frozen (p := ⟨b, 0, none⟩) hB).trans h.f0, (hb.frozen (p := ⟨b, 1, none⟩) hB).trans h.f1, (hb.frozen (p := ⟨b, 2, none⟩) hB).trans h.f2, Nat.lt_of_lt_of_le h.lt hb.size⟩

theorem BoxA.new (w : World) (farm : Int) (p : Option Addr) (n c : Nat) (next : Int) (T : TypeId) : BoxA (w.alloc (.cells #[.int .i64 farm, .slice p n c, .int .i64 next] T)) w.heap.size farm p n c next :=
  ⟨by go_simp, by go_simp, by go_simp, by go_simp, by go_simp, by go_simp, by simp⟩

theorem BoxA.drew {w : World} {b : Nat} {farm : Int} {p : Option Addr} {n c : Nat} {next : Int} (h : BoxA w b farm p n c next) : BoxA w.drew b farm p n c next := ⟨h.a0, h.a1, h.a2, h.f0, h.f1, h.f2, h.lt⟩

set_option maxRecDepth 100000 in
set_option maxHeartbeats 2000000 in
theorem copied39_any (farm next : Int) (p : Option Addr) (L : List De.Dbt) (cap : Nat) (w : World) (h : Debts w p L) (hc : p = none → cap = 0) (hl : L.length ≤ 1000000) :
    Calls Try.prog 72 #[accV farm p L.length cap next] w (AGive w farm L next) := by
  unfold accV
  have hn := h.len
  have HC := Lib.hid hc
  have H := Lib.hid ((h.below ((Below.refl w.heap.size w).alloc (Nat.le_refl _) (Obj.cells #[.int .i64 farm, .slice p L.length cap, .int .i64 next] 42))).below ((Below.refl _ _).alloc (Nat.le_refl _) (Obj.cells #[.int .i64 0, .slice none 0 0, .int .i64 0] 42)))
  clear h hc
  go_enter Try.func72, Try.ntmps72
  go_wp2_with fail
  go_region_held3 (fun w' => (w'.cell? ⟨w.heap.size, 0, none⟩ = some (.int .i64 farm) ∧ w'.cell? ⟨w.heap.size, 1, none⟩ = some (.slice p L.length cap) ∧ w'.cell? ⟨w.heap.size, 2, none⟩ = some (.int .i64 next))) (first | exact ⟨g0, g1, g2⟩ | go_keep)
    ((refine OwnR.stepCopy el_dbt (by rfl) (.const (.slice none 0 0)) (.tmp 6) (by rfl) L p cap L.length rfl H.out.drew HC.out (by rfl) (by rfl) (by omega) (by decide) ?_; intro v1 w1 hO1 hb1; obtain ⟨p1, c1, rfl⟩ := hO1.sl; have g0 := (hb1.cell (p := ⟨w.heap.size, 0, none⟩) (by simp <;> omega)).trans (show _ = some (Value.int .i64 farm) by go_simp); have g1 := (hb1.cell (p := ⟨w.heap.size, 1, none⟩) (by simp <;> omega)).trans (show _ = some (Value.slice p L.length cap) by go_simp); have g2 := (hb1.cell (p := ⟨w.heap.size, 2, none⟩) (by simp <;> omega)).trans (show _ = some (Value.int .i64 next) by go_simp); have r0 := (hb1.cell (p := ⟨w.heap.size + 1, 0, none⟩) (by simp)).trans (show _ = some (Value.int .i64 0) by go_simp); have r1 := (hb1.cell (p := ⟨w.heap.size + 1, 1, none⟩) (by simp)).trans (show _ = some (Value.slice none 0 0) by go_simp); have r2 := (hb1.cell (p := ⟨w.heap.size + 1, 2, none⟩) (by simp)).trans (show _ = some (Value.int .i64 0) by go_simp); have f0 := (hb1.frozen (p := ⟨w.heap.size + 1, 0, none⟩) (by simp)).trans (show _ = false by go_simp); have f1 := (hb1.frozen (p := ⟨w.heap.size + 1, 1, none⟩) (by simp)).trans (show _ = false by go_simp); have f2 := (hb1.frozen (p := ⟨w.heap.size + 1, 2, none⟩) (by simp)).trans (show _ = false by go_simp); have hs1 : w.heap.size + 1 < w1.heap.size := (by have := hb1.size; simp at this; omega)))
  go_wp2
  have hne : ∀ g, (Value.slice p1 L.length c1).ownBlock = some g → g ≠ w.heap.size + 1 := fun g hg e => by
    have := (hO1.lt hg).1
    simp at this
    omega
  have hne1 : (Value.slice p1 L.length c1).ownBlock ≠ some (w.heap.size + 1) := fun e => hne _ e rfl
  have hbB : Below w.heap.size w w1 := (((Below.refl w.heap.size w).alloc (Nat.le_refl _) _).alloc (by simp) _).trans ((bdrew' hb1).mono (by simp; omega))
  exact bodyPost_ret (v := .agg #[.int .i64 farm, .slice p1 L.length c1, .int .i64 next]) (by simp [results, Try.results72, go_sem, r0, r1, r2]) rfl ⟨p1, c1, rfl, (((hO1.setOther hne1 _).setOther hne1 _).setOther hne1 _).mono (by simp; omega), ((hbB.setCell (by simp) _).setCell (by simp) _).setCell (by simp) _⟩

noncomputable def owedV (farm : Int) (L : List De.Dbt) (next : Int) : Int := if De.chk farm L next ≠ 0 then 0 else De.sum L

theorem owed_bad {farm : Int} {L : List De.Dbt} {next : Int} (h : ¬ De.Right farm L next) : owedV farm L next = 0 := by unfold owedV; rw [De.chk_bad h]; simp
theorem owed_ok {farm : Int} {L : List De.Dbt} {next : Int} (h : De.Right farm L next) : owedV farm L next = De.sum L := by unfold owedV; rw [De.chk_ok h]; simp

theorem left_bd {farm : Int} {L : List De.Dbt} {next : Int} (h : De.Right farm L next) (k : Nat) : 0 ≤ De.sum (L.take k) ∧ De.sum (L.take k) ≤ 68719476736 := by
  have h1 := De.sum_bd (L := L.take k) fun d hd => by have := (h.each d (List.mem_of_mem_take hd)).2.2; unfold De.good at this; omega
  have h2 : De.total (L.take k) ≤ De.total L := De.total_sub ((List.take_sublist k L).map _) fun d hd => by have := (h.each d hd).2.2; unfold De.good at this; omega
  have := h.tot
  omega

set_option maxRecDepth 100000 in
set_option maxHeartbeats 2000000 in
theorem owed39_any (farm next : Int) (p : Option Addr) (L : List De.Dbt) (cap : Nat) (w : World) (h : Debts w p L) :
    Calls Try.prog 29 #[accV farm p L.length cap next] w fun e w' => e = .returned (.int .i64 (owedV farm L next)) ∧ Below w.heap.size w w' := by
  have hn := h.len
  have hb0 : Below w.heap.size w (w.alloc (Obj.cells #[.int .i64 farm, .slice p L.length cap, .int .i64 next] 42)) := (Below.refl w.heap.size w).alloc (Nat.le_refl _) _
  have HC := Lib.hid (check39_any farm next p L cap _ (h.below hb0))
  have H0 := Lib.hid (h.below hb0)
  have hbx := Lib.hid (BoxA.new w farm p L.length cap next 42)
  unfold accV at HC ⊢
  clear h
  by_cases hR : De.Right farm L next
  · have hcz := De.chk_ok hR
    rw [hcz] at HC
    have E := Lib.hid (owed_ok hR)
    have SB := Lib.hid (left_bd hR)
    have R := Lib.hid hR
    clear hR hcz
    go_enter Try.func29, Try.ntmps29
    go_wp2_with (first | (go_at_call 30; refine Calls.mono HC.out ?_; rintro e w1 ⟨rfl, hb1⟩; obtain ⟨a0, a1, a2, -, -, -, hlt1⟩ := hbx.out.below hb1 (by simp)))
    have H1 := Lib.hid (H0.out.below hb1)
    have B1 := Lib.hid (bstep (Nat.le_refl _) hb0 hb1)
    clear hb0 hb1
    obtain ⟨wz, rfl⟩ : ∃ wz : World, wz = w1 := ⟨_, rfl⟩
    go_loopw [3, 12] (fun s i wr => ∃ k : Nat, k ≤ L.length ∧ i = .int .i64 k ∧ s = .int .i64 (De.sum (L.take k)) ∧ Below wz.heap.size wz wr) (fun _ i _ => L.length - (intOf i).toNat)
    case atStart => exact ⟨0, Nat.zero_le _, rfl, rfl, Below.refl _ _⟩
    case round =>
      obtain ⟨k, hk, rfl, rfl, hb⟩ := hrel
      have HB := Lib.hid hb
      have hsz := hb.size
      obtain ⟨t0, t1⟩ := SB.out k
      by_cases hlt : k < L.length
      · obtain ⟨b, off, d, rfl, hbl, hD, hd⟩ := SD_at H1.out hlt
        obtain ⟨c0, c1, c2, c3, c4⟩ := hD.below hb hbl
        have hg := (R.out.each _ (De.g_mem hlt)).2.2
        rw [hd.out] at hg
        have hl : 1 ≤ d.left ∧ d.left ≤ 68719476736 := by unfold De.good at hg; omega
        have hst := Lib.hid (De.sum_take hlt)
        have hk0 : (0 : Int) ≤ (k : Int) := Int.natCast_nonneg _
        have hk1 : (k : Int) < (L.length : Int) := by omega
        clear hb hD hg
        go_wp2
        go_roundw
        case rel => exact ⟨k + 1, by omega, by go_num, by rw [hst.out, hd.out], HB.out.alloc hsz _⟩
        case measure => simp [intOf]; omega
      · obtain rfl : k = L.length := by omega
        clear hb
        go_wp2
        go_ret
        exact ⟨by rw [E.out, List.take_length]; rfl, bnext B1.out B1.out.size HB.out⟩
  · have hcz := De.chk_bad hR
    rw [hcz] at HC
    have E := Lib.hid (owed_bad hR)
    clear hR hcz
    go_enter Try.func29, Try.ntmps29
    go_wp2_with (first | (go_at_call 30; refine (HC.out).mono ?_; rintro e w1 ⟨rfl, hb1⟩))
    go_ret
    exact ⟨by rw [E.out]; rfl, bstep (Nat.le_refl _) hb0 hb1⟩

set_option maxRecDepth 100000 in
set_option maxHeartbeats 2000000 in
theorem refsum39_any (farm next : Int) (p : Option Addr) (L : List De.Dbt) (cap : Nat) (w : World) (h : Debts w p L) (ha : ∀ d ∈ L, 0 ≤ d.amt ∧ d.amt ≤ 68719476736) (h64 : L.length ≤ 64) :
    Calls Try.prog 71 #[accV farm p L.length cap next] w fun e w' => e = .returned (.int .i64 (De.total L)) ∧ Below w.heap.size w w' := by
  unfold accV
  have hn := h.len
  have hb0 : Below w.heap.size w (w.alloc (Obj.cells #[.int .i64 farm, .slice p L.length cap, .int .i64 next] 42)) := (Below.refl w.heap.size w).alloc (Nat.le_refl _) _
  have H1 := Lib.hid (h.below hb0)
  have HA := Lib.hid ha
  have HB := Lib.hid (amt_bd ha h64)
  clear h ha
  go_enter Try.func71, Try.ntmps71
  go_wp2
  go_loop [3, 4] (fun s i => ∃ k : Nat, k ≤ L.length ∧ i = .int .i64 k ∧ s = .int .i64 (De.total (L.take k))) (fun _ i => L.length - (intOf i).toNat)
  case atStart => exact ⟨0, Nat.zero_le _, rfl, rfl⟩
  case round =>
    obtain ⟨k, hk, rfl, rfl⟩ := hrel
    obtain ⟨t0, t1⟩ := HB.out k
    by_cases hlt : k < L.length
    · obtain ⟨b, off, d, rfl, hbl, hD, hd⟩ := SD_at H1.out hlt
      obtain ⟨c0, c1, c2, c3, c4⟩ := hD
      have ha := HA.out _ (De.g_mem hlt)
      rw [hd.out] at ha
      have hst := Lib.hid (De.total_take hlt)
      have hk0 : (0 : Int) ≤ (k : Int) := Int.natCast_nonneg _
      have hk1 : (k : Int) < (L.length : Int) := by omega
      go_wp2
      go_round
      case rel => exact ⟨k + 1, by omega, by go_num, by rw [hst.out, hd.out]⟩
      case measure => simp [intOf]; omega
    · obtain rfl : k = L.length := by omega
      go_wp2
      go_ret
      exact ⟨by first | rfl | (rw [List.take_length]; rfl), hb0⟩

end Go.Proofs.Ytdnddikchchdkaa
