/-
  THE WALKS over ref39.first and ref39.drop.
-/
import Derived.Test.YtdnddikchchdkaaD12
import Derived.Outline
namespace Go.Proofs.Ytdnddikchchdkaa
open Go.RowKit

/-- The first of the debts that are due, among the first m. -/
def fFrom (L : List De.Dbt) (day : Int) (m : Nat) (i : Int) : Prop :=
  (i = -1 ∧ ∀ j, j < m → day < (De.g L j).due) ∨ ∃ k : Nat, i = k ∧ k < m ∧ (De.g L k).due ≤ day ∧ ∀ j, j < m → (De.g L j).due ≤ day → (De.g L k).due < (De.g L j).due ∨ ((De.g L k).due = (De.g L j).due ∧ k ≤ j)

def FGive (L : List De.Dbt) (day : Int) (w : World) (e : Ending) (w' : World) : Prop := ∃ i, e = .returned (.int .i64 i) ∧ fFrom L day L.length i ∧ Below w.heap.size w w'

set_option maxRecDepth 100000 in
set_option maxHeartbeats 4000000 in
theorem first39_any (p : Option Addr) (L : List De.Dbt) (cap : Nat) (day : Int) (w : World) (h : Debts w p L) :
    Calls Try.prog 73 #[.slice p L.length cap, .int .i64 day] w (FGive L day w) := by
  have hn := h.len
  have H := Lib.hid h
  clear h
  go_enter Try.func73, Try.ntmps73
  go_wp2
  go_loopw [5, 6] (fun o i wr => ∃ (k : Nat) (x : Int), k ≤ L.length ∧ i = .int .i64 k ∧ o = .int .i64 x ∧ fFrom L day k x ∧ Below w.heap.size w wr) (fun _ i _ => L.length - (intOf i).toNat)
  case atStart => exact ⟨0, -1, Nat.zero_le _, rfl, rfl, .inl ⟨rfl, fun j hj => absurd hj (Nat.not_lt_zero j)⟩, Below.refl _ _⟩
  case round =>
    obtain ⟨k, x, hk, rfl, rfl, hx, hb⟩ := hrel
    have HX := Lib.hid hx
    have HB := Lib.hid hb
    have hsz := hb.size
    by_cases hlt : k < L.length
    · obtain ⟨b, off, d, rfl, hbl, hD, hd⟩ := SD_at H.out hlt
      obtain ⟨c0, c1, c2, c3, c4⟩ := hD.below hb hbl
      have hk0 : (0 : Int) ≤ (k : Int) := Int.natCast_nonneg _
      have hk1 : (k : Int) < (L.length : Int) := by omega
      have hbW : ∀ j, j < L.length → DAt wr b (off + j * 5) (De.g L j) := fun j hj => by
        obtain ⟨b', off', d', e, hbl', hD', hd'⟩ := SD_at H.out hj
        cases e
        rw [hd'.out]
        exact hD'.below hb hbl'
      have HW := Lib.hid hbW
      clear hb hD hx hbW
      by_cases hdue : d.due ≤ day
      · have f1 : decide (d.due ≤ day) = true := decide_eq_true hdue
        rcases HX.out with ⟨rfl, hall⟩ | ⟨m, rfl, hmk, hmd, hall⟩
        · have NX := Lib.hid (show fFrom L day (k + 1) k from .inr ⟨k, rfl, by omega, by rw [hd.out]; exact hdue, fun j hj hjd => by
            by_cases e : j = k
            · right; subst e; exact ⟨rfl, Nat.le_refl _⟩
            · have := hall j (by omega); omega⟩)
          clear hall
          go_wp2_with fail
          go_quiet (fail)
          go_wp2
          go_roundw
          case rel => exact ⟨k + 1, k, by omega, by go_num, rfl, NX.out, bstep (Nat.le_refl _) HB.out (drewN_below _ _)⟩
          case measure => simp [intOf]; omega
        · obtain ⟨q0, -, q2, -, -⟩ := HW.out m (by omega)
          have hm0 : (0 : Int) ≤ (m : Int) := Int.natCast_nonneg _
          have hm1 : (m : Int) < (L.length : Int) := by omega
          have f2 : decide ((m : Int) < 0) = false := decide_eq_false (by omega)
          obtain ⟨dm, hdm⟩ : ∃ y, De.g L m = y := ⟨_, rfl⟩
          rw [hdm] at hmd hall q0 q2
          have DM := Lib.hid hdm
          have ALL := Lib.hid hall
          clear hall hdm
          by_cases hlt2 : d.due < dm.due
          · have f3 : decide (d.due < dm.due) = true := decide_eq_true hlt2
            have NX := Lib.hid (show fFrom L day (k + 1) k from .inr ⟨k, rfl, by omega, by rw [hd.out]; exact hdue, fun j hj hjd => by
              by_cases e : j = k
              · right; subst e; exact ⟨rfl, Nat.le_refl _⟩
              · have := ALL.out j (by omega) hjd; left; rw [hd.out]; omega⟩)
            go_wp2_with fail
            go_quiet (fail)
            go_wp2
            go_roundw
            case rel => exact ⟨k + 1, k, by omega, by go_num, rfl, NX.out, bstep (Nat.le_refl _) HB.out (drewN_below _ _)⟩
            case measure => simp [intOf]; omega
          · have f3 : decide (d.due < dm.due) = false := decide_eq_false hlt2
            have NX := Lib.hid (show fFrom L day (k + 1) m from .inr ⟨m, rfl, by omega, by rw [DM.out]; exact hmd, fun j hj hjd => by
              rw [DM.out]
              by_cases e : j = k
              · subst e; rw [hd.out]; omega
              · exact ALL.out j (by omega) hjd⟩)
            go_wp2_with fail
            go_quiet (fail)
            go_wp2
            go_roundw
            case rel => exact ⟨k + 1, m, by omega, by go_num, rfl, NX.out, bstep (Nat.le_refl _) HB.out (drewN_below _ _)⟩
            case measure => simp [intOf]; omega
      · have f1 : decide (d.due ≤ day) = false := decide_eq_false hdue
        have NX := Lib.hid (show fFrom L day (k + 1) x by
          rcases HX.out with ⟨rfl, hall⟩ | ⟨m, rfl, hmk, hmd, hall⟩
          · exact .inl ⟨rfl, fun j hj => by
              by_cases e : j = k
              · subst e; rw [hd.out]; omega
              · exact hall j (by omega)⟩
          · exact .inr ⟨m, rfl, by omega, hmd, fun j hj hjd => by
              by_cases e : j = k
              · subst e; rw [hd.out] at hjd; omega
              · exact hall j (by omega) hjd⟩)
        go_wp2_with fail
        go_quiet (fail)
        go_wp2
        go_roundw
        case rel => exact ⟨k + 1, x, by omega, by go_num, rfl, NX.out, bstep (Nat.le_refl _) HB.out (drewN_below _ _)⟩
        case measure => simp [intOf]; omega
    · obtain rfl : k = L.length := by omega
      clear hb hx
      go_wp2
      go_ret
      exact ⟨x, rfl, HX.out, HB.out⟩

theorem fFrom.least {L : List De.Dbt} {day : Int} {k : Nat} (ha : De.Asc L) (h : fFrom L day L.length (k : Int)) : k < L.length ∧ De.IsLeast L day (De.g L k) := by
  rcases h with ⟨e, _⟩ | ⟨m, e, hm, hd, hall⟩
  · omega
  · obtain rfl : k = m := by omega
    refine ⟨hm, De.g_mem hm, hd, fun e he h1 h2 => ?_⟩
    obtain ⟨j, hj, rfl⟩ := De.mem_g he
    unfold De.before
    rcases hall j hj h1 with h | ⟨h, hle⟩
    · exact .inl h
    · refine .inr ⟨h, ?_⟩
      rcases Nat.lt_or_ge k j with hlt | hge
      · exact ha.lt hlt hj
      · obtain rfl : k = j := by omega
        exact absurd rfl h2

set_option maxRecDepth 100000 in
set_option maxHeartbeats 4000000 in
theorem drop39_any (p : Option Addr) (L : List De.Dbt) (cap k : Nat) (w : World) (h : Debts w p L) (hp : p = none → cap = 0) (hk : k < L.length) (hcap : L.length ≤ cap) (hcm : cap ≤ maxLen) (hl : L.length ≤ 1000000) :
    Calls Try.prog 74 #[.slice p L.length cap, .int .i64 k] w fun e w' => ∃ p' c', e = .returned (.slice p' (L.take k ++ L.drop (k + 1)).length c') ∧ OwnR SD w' 49 w.heap.size (.slice p' (L.take k ++ L.drop (k + 1)).length c') (L.take k ++ L.drop (k + 1)) ∧ Below w.heap.size w w' := by
  have hn := h.len
  obtain ⟨b, off, d, rfl, hbl, -, -⟩ := SD_at h hk
  have H := Lib.hid h
  have hcm2 : cap ≤ 9223372036854775807 := by unfold maxLen at hcm; omega
  have hk0 : (0 : Int) ≤ (k : Int) := Int.natCast_nonneg _
  have hk1 : (k : Int) < (L.length : Int) := by omega
  have hk2 : (k : Int) ≤ (cap : Int) := by omega
  have hk3 : (k : Int) + 1 ≤ (L.length : Int) := by omega
  have hw1 : IntKind.i64.wrap ((k : Int) + 1) = (k : Int) + 1 := by rw [IntKind.wrap_i64]; omega
  have hlt : (L.take k).length = k := by rw [List.length_take]; omega
  clear h
  have HL := Lib.hid hlt
  clear hlt
  by_cases hce : cap = k + 1
  · have hLe : L.length = k + 1 := by omega
    have hd0 : L.drop (k + 1) = [] := List.drop_of_length_le (by omega)
    have HD0 := Lib.hid hd0
    have hlz : L.length - (k + 1) = 0 := by omega
    have HCE := Lib.hid hce
    subst hce
    clear hd0 HCE
    have hkk : ((k : Int) + 1).toNat = k + 1 := by omega
    have hk4 : (k : Int) ≤ (k : Int) + 1 := by omega
    have hk5 : (0 : Int) ≤ (k : Int) + 1 := by omega
    clear hp hk2
    go_enter Try.func74, Try.ntmps74
    go_wp2_with fail
    go_region_held3 (fun w' => Debts w' (some ⟨b, off, none⟩) L) (first | exact H.out.drew | exact HR.out | exact HQ.out)
      (first | (refine OwnR.stepCopy el_dbt (by rfl) (.const (.slice none 0 0)) (.tmp 7) (by rfl) (L.take k) (some ⟨b, off, none⟩) (k + 1) k HL.out (H.out.drew.take k) (fun h => by cases h) (by rfl) (by rfl) (by omega) (by decide) ?_; intro v1 w1 hO1 hb1; have HQ := Lib.hid (H.out.drew.below hb1)) | (refine OwnR.stepAll el_dbt (by rfl) (.tmp 8) (.tmp 12) (by rfl) w.drew.heap.size v1 (L.take k) (L.drop (k + 1)) (some ⟨b, off, none⟩) 0 0 (by rw [HD0.out]; rfl) hO1 (by rw [HD0.out]; exact Recs.nil _ _) (fun h => by cases h) (by rfl) (by rfl) (by have := hb1.size; exact this) (by rw [HL.out]; omega) (by decide) ?_; intro v2 w2 hO2 hb2; have HR := Lib.hid (H.out.drew.below (hb1.trans hb2))))
    go_wp2
    obtain ⟨p', c', rfl⟩ := hO2.sl
    go_ret
    exact ⟨p', c', rfl, hO2, bdrew' (hb1.trans hb2)⟩
  · have hk5 : (0 : Int) ≤ (k : Int) + 1 := by omega
    go_enter Try.func74, Try.ntmps74
    go_wp2_with fail
    go_region_held3 (fun w' => Debts w' (some ⟨b, off, none⟩) L) (first | exact H.out.drew | exact HR.out | exact HQ.out)
      (first | (refine OwnR.stepCopy el_dbt (by rfl) (.const (.slice none 0 0)) (.tmp 7) (by rfl) (L.take k) (some ⟨b, off, none⟩) cap k HL.out (H.out.drew.take k) (fun h => by cases h) (by rfl) (by rfl) (by omega) (by decide) ?_; intro v1 w1 hO1 hb1; have HQ := Lib.hid (H.out.drew.below hb1)) | (refine OwnR.stepAll el_dbt (by rfl) (.tmp 8) (.tmp 12) (by rfl) w.drew.heap.size v1 (L.take k) (L.drop (k + 1)) (some ⟨b, off + (k + 1) * 5, none⟩) (cap - (k + 1)) (L.length - (k + 1)) (by simp) hO1 (HQ.out.drop (k + 1)) (fun h => by cases h) (by rfl) (by rfl) (by have := hb1.size; exact this) (by rw [HL.out]; omega) (by decide) ?_; intro v2 w2 hO2 hb2; have HR := Lib.hid (H.out.drew.below (hb1.trans hb2))))
    all_goals
      go_wp2
      obtain ⟨p', c', rfl⟩ := hO2.sl
      go_ret
      exact ⟨p', c', rfl, hO2, bdrew' (hb1.trans hb2)⟩

end Go.Proofs.Ytdnddikchchdkaa
