/-
  MERGED (mergek.py): the texts T28, T33.
-/
import Derived.Test.YtflcdkibjakciaaGreatDoorT26
import Derived.Test.YtflcdkibjakciaaGreatDoorT23
import Derived.Test.YtflcdkibjakciaaGreatDoorM24
import Derived.Test.YtflcdkibjakciaaGreatDoorM13
import Derived.Test.YtflcdkibjakciaaGreatDoorM15
import Derived.Test.YtflcdkibjakciaaGreatDoorM21
import Derived.Test.YtflcdkibjakciaaGreatDoorM23

namespace Go.Proofs.YtflcdkibjakciaaGreatDoor
open Go.RowKit Te Sc

theorem one_br {s : Sch} (h : one17 s = 0) : brB s.br = true := by
  unfold one17 at h
  split at h
  · cases h
  split at h
  · cases h
  split at h
  · rename_i h1; exact absurd h h1
  split at h
  · cases h
  · rename_i h1
    cases e : brB s.br
    · exact absurd (.inl e) h1
    · rfl

theorem amt_succ {l : List Brk} {sq : Int} {k : Nat} (hk : k < l.length) : amt l sq (k + 1) = amt l sq k + max 0 (min sq l[k].up - upB l k) * l[k].rate := by
  show amt l sq k + (match l[k]? with | some b => max 0 (min sq b.up - upB l k) * b.rate | none => 0) = _
  rw [List.getElem?_eq_getElem hk]

/-- What a right row of brackets says at one of them. -/
theorem br_right {l : List Brk} {k : Nat} (hk : k < l.length) (h : brAll l (k + 1) = true) : upB l k < l[k].up ∧ l[k].up ≤ 268435456 ∧ 0 ≤ l[k].rate ∧ l[k].rate ≤ 1048576 ∧ 0 ≤ upB l k := by
  have h2 := h
  rw [brAll_succ, Bool.and_eq_true] at h2
  have h3 := h2.2
  rw [brAt_some hk, Bool.and_eq_true, Bool.and_eq_true, Bool.and_eq_true, decide_eq_true_eq, decide_eq_true_eq, decide_eq_true_eq, decide_eq_true_eq] at h3
  exact ⟨h3.1, h3.2.1, h3.2.2.1, h3.2.2.2, upB_nonneg (by omega) h2.1⟩

theorem part_le {a b r : Int} (h0 : 0 ≤ a) (h1 : a ≤ b) (h2 : 0 ≤ r) (h3 : r ≤ 1048576) : 0 ≤ a * r ∧ a * r ≤ 1048576 * b := by
  refine ⟨Int.mul_nonneg h0 h2, ?_⟩
  have e1 : a * r ≤ a * 1048576 := Int.mul_le_mul_of_nonneg_left h3 h0
  omega

theorem amt_le {l : List Brk} {sq : Int} {k : Nat} (hk : k ≤ l.length) (h : brAll l k = true) : 0 ≤ amt l sq k ∧ amt l sq k ≤ 1048576 * upB l k := by
  induction k with
  | zero => exact ⟨Int.le_refl _, by unfold upB; simp [amt]⟩
  | succ k ih =>
    have hk' : k < l.length := by omega
    have h1 := ih (by omega) (brAll_mono (Nat.le_succ k) h)
    obtain ⟨b1, b2, b3, b4, b5⟩ := br_right hk' h
    rw [amt_succ hk', upB_succ hk']
    have h2 := part_le (a := max 0 (min sq l[k].up - upB l k)) (b := l[k].up - upB l k) (by omega) (by omega) b3 b4
    omega

theorem upB_le {l : List Brk} {k : Nat} (hk : k ≤ l.length) (h : brAll l k = true) : upB l k ≤ 268435456 := by
  cases k with
  | zero => unfold upB; simp
  | succ k => rw [upB_succ (by omega)]; exact (br_right (by omega) h).2.1

theorem amtE_zero {s : Sch} {sq : Int} (h : one17 s = 0) (h0 : 0 ≤ sq) (h1 : sq ≤ 268435456) : amtE s sq = 0 := by
  unfold amtE; rw [if_neg (by omega), if_neg (by omega)]
theorem amtV_zero {s : Sch} {sq : Int} (h : amtE s sq ≠ 0) : amtV s sq = 0 := by unfold amtV; rw [if_pos h]
theorem amtV_ok {s : Sch} {sq : Int} (h : amtE s sq = 0) : amtV s sq = amt s.br sq s.br.length / 100 := by unfold amtV; rw [if_neg (by omega)]

set_option maxRecDepth 100000 in
set_option maxHeartbeats 3000000 in
theorem amount17_any {Q : Nat → Prop} (d : Nat) (r : RSx) (s : Sch) (sq : Int) (w : World) (h : SV Q w d r s) (hz : r.nm.size ≤ 9223372036854775807) :
    Calls Tryz.prog 11 #[.agg #[.int .i64 r.num, .string r.nm, .int .i64 r.t.op, .int .i64 r.t.num, .int .i64 r.t.more, .slice r.t.p r.t.n r.t.c, .slice r.bp r.bn r.bc, .int .i64 r.least, .int .i64 r.ex, .bool r.needs], .int .i64 sq] w (ChkG (amtV s sq, amtE s sq) w) := by
  have CV := Lib.hid (valid_any d r s _ (h.below (balloc (Nat.le_refl _) (Below.refl _ _) (.cells (sCells r).toArray 32))) hz)
  have HR := Lib.hid h.br
  have HN := h.bn
  clear h hz
  obtain ⟨num, nm, ⟨o, tn, tm, tp, tl, tc⟩, bp, bn, bc, least, ex, needs⟩ := r
  simp only [sCells] at CV
  simp only at HR HN
  have HA := Lib.hid (balloc (Nat.le_refl _) (Below.refl w.heap.size w) (.cells #[.int .i64 num, .string nm, .int .i64 o, .int .i64 tn, .int .i64 tm, .slice tp tl tc, .slice bp bn bc, .int .i64 least, .int .i64 ex, .bool needs] 32))
  subst HN
  obtain ⟨v, ev⟩ : ∃ v, one17 s = v := ⟨_, rfl⟩
  rw [ev] at CV
  obtain ⟨cv, ecv⟩ : ∃ v, (amtV s sq, amtE s sq) = v := ⟨_, rfl⟩
  rw [ecv]
  have ECV := Lib.hid ecv
  have EV := Lib.hid ev
  clear ecv ev
  by_cases hv0 : v = 0
  rotate_left
  · have HV := Lib.hid (show cv = (0, 17) from by
      have e : amtE s sq = 17 := by unfold amtE; rw [if_pos (by rw [EV.out]; exact hv0)]
      rw [← ECV.out, e, amtV_zero (by rw [e]; decide)])
    have hne : (v != 0) = true := by simpa using hv0
    clear hv0
    go_enter Tryz.func11, Tryz.ntmps11
    go_wp2_with (first | (go_at_call 35; (with_reducible refine Calls.mono CV.out ?_); rintro e w1 ⟨rfl, hb1⟩; have HB1 := Lib.hid (bstep (Nat.le_refl _) HA.out hb1); have k1 := (hb1.cell (p := ⟨w.heap.size, 6, none⟩) (by simp)).trans (World.cell?_alloc_new _ _ _ _); clear hb1))
    go_ret2
    exact ⟨by rw [HV.out]; rfl, HB1.out⟩
  subst hv0
  by_cases hs : sq < 0 ∨ 268435456 < sq
  · have HV := Lib.hid (show cv = (0, 2) from by
      have e : amtE s sq = 2 := by unfold amtE; rw [if_neg (by rw [EV.out]; decide), if_pos hs]
      rw [← ECV.out, e, amtV_zero (by rw [e]; decide)])
    have HS := Lib.hid hs
    clear hs
    by_cases h0 : sq < 0
    · go_enter Tryz.func11, Tryz.ntmps11
      go_wp2_with (first | (go_at_call 35; (with_reducible refine Calls.mono CV.out ?_); rintro e w1 ⟨rfl, hb1⟩; have HB1 := Lib.hid (bstep (Nat.le_refl _) HA.out hb1); have k1 := (hb1.cell (p := ⟨w.heap.size, 6, none⟩) (by simp)).trans (World.cell?_alloc_new _ _ _ _); clear hb1))
      go_ret2
      exact ⟨by rw [HV.out]; rfl, HB1.out⟩
    · have h1 : 268435456 < sq := by have := HS.out; omega
      go_enter Tryz.func11, Tryz.ntmps11
      go_wp2_with (first | (go_at_call 35; (with_reducible refine Calls.mono CV.out ?_); rintro e w1 ⟨rfl, hb1⟩; have HB1 := Lib.hid (bstep (Nat.le_refl _) HA.out hb1); have k1 := (hb1.cell (p := ⟨w.heap.size, 6, none⟩) (by simp)).trans (World.cell?_alloc_new _ _ _ _); clear hb1))
      go_ret2
      exact ⟨by rw [HV.out]; rfl, HB1.out⟩
  have hs0 : 0 ≤ sq := by omega
  have hs1 : sq ≤ 268435456 := by omega
  have HV := Lib.hid (show cv = (amt s.br sq s.br.length / 100, 0) from by rw [← ECV.out, amtE_zero EV.out hs0 hs1, amtV_ok (amtE_zero EV.out hs0 hs1)])
  have HBR := Lib.hid (one_br EV.out)
  have BA := Lib.hid (show brAll s.br s.br.length = true from by have := HBR.out; unfold brB at this; rw [Bool.and_eq_true] at this; exact this.1)
  clear hs
  obtain ⟨l, el⟩ : ∃ l, s.br = l := ⟨_, rfl⟩
  rw [el] at HR HV BA CV HA ⊢
  have hlen := HR.out.len
  clear el HBR
  go_enter Tryz.func11, Tryz.ntmps11
  go_wp2_with (first | (go_at_call 35; (with_reducible refine Calls.mono CV.out ?_); rintro e w1 ⟨rfl, hb1⟩; have HB1 := Lib.hid (bstep (Nat.le_refl _) HA.out hb1); have k1 := (hb1.cell (p := ⟨w.heap.size, 6, none⟩) (by simp)).trans (World.cell?_alloc_new _ _ _ _); clear hb1))
  go_loopw [6, 7, 22] (fun a b i wr => ∃ k : Nat, k ≤ l.length ∧ i = .int .i64 k ∧ a = .int .i64 (amt l sq k) ∧ b = .int .i64 (upB l k) ∧ Below w.heap.size w wr) (fun _ _ i _ => l.length - (intOf i).toNat)
  case atStart => exact ⟨0, Nat.zero_le _, rfl, rfl, by unfold upB; simp, HB1.out⟩
  case round =>
    obtain ⟨wo, rfl⟩ : ∃ wo : World, wo = wr := ⟨_, rfl⟩
    obtain ⟨k, hk, rfl, rfl, rfl, hb⟩ := hrel
    have HB := Lib.hid hb
    have hk0 : (0 : Int) ≤ (k : Int) := Int.natCast_nonneg _
    have AL := amt_le (sq := sq) hk (brAll_mono hk BA.out)
    have UL := upB_le hk (brAll_mono hk BA.out)
    by_cases hlt : k < l.length
    · have hk1 : (k : Int) < (l.length : Int) := by omega
      obtain ⟨b, off, x, rfl, hbl, x0, x1, hx⟩ := SBk_at (HR.out.below hb) hlt
      have BR := br_right hlt (brAll_mono (by omega) BA.out)
      have AS := amt_succ (sq := sq) hlt
      have US := upB_succ hlt
      rw [hx.out] at BR AS US
      obtain ⟨up, rate⟩ := x
      simp only at x0 x1 BR AS US
      obtain ⟨b1, b2, b3, b4, b5⟩ := BR
      obtain ⟨last, elast⟩ : ∃ x, upB l k = x := ⟨_, rfl⟩
      obtain ⟨sum, esum⟩ : ∃ x, amt l sq k = x := ⟨_, rfl⟩
      rw [elast] at b1 b5 AL AS UL ⊢
      rw [esum] at AL AS ⊢
      obtain ⟨l0, l1⟩ := AL
      have pl := part_le (a := max 0 (min sq up - last)) (b := up - last) (by omega) (by omega) b3 b4
      obtain ⟨X, eX⟩ : ∃ X, max 0 (min sq up - last) * rate = X := ⟨_, rfl⟩
      rw [eX] at pl AS
      have AS0 := Lib.hid AS
      clear AS
      have US0 := Lib.hid US
      clear US
      have hwX : IntKind.i64.wrap (max 0 (min sq up - last) * rate) = X := by rw [eX, IntKind.wrap_i64]; omega
      have hwd : IntKind.i64.wrap (min sq up - last) = min sq up - last := by rw [IntKind.wrap_i64]; omega
      have pl0 := pl.1
      have pl1 : X ≤ 1125899906842624 := by omega
      have l1' : sum ≤ 1125899906842624 := by omega
      have HBJ := Lib.hid (balloc (Nat.le_refl _) hb (.cells #[.int .i64 up, .int .i64 rate] 34))
      clear hb hx elast esum eX pl l1 b1 b2 b3 b4 b5 UL
      go_wp2
      go_roundw
      case rel => exact ⟨k + 1, by omega, by go_num, by rw [AS0.out], by rw [US0.out], HBJ.out⟩
      case measure => simp [intOf]; omega
    · obtain rfl : k = l.length := by omega
      have h0 : 0 ≤ amt l sq l.length := AL.1
      have h1 : amt l sq l.length ≤ 1125899906842624 := by omega
      have DN := Lib.hid (down100_any (amt l sq l.length) h0 h1 wo)
      clear hb AL UL h0 h1
      go_wp2_with (first | (go_at_call 36; (with_reducible refine Calls.mono DN.out ?_); rintro e w1 ⟨rfl, rfl⟩))
      go_ret2
      exact ⟨by rw [HV.out]; rfl, HB.out⟩

set_option maxRecDepth 100000 in
set_option maxHeartbeats 3000000 in
theorem refamount17_any {Q : Nat → Prop} (d : Nat) (r : RSx) (s : Sch) (sq : Int) (w : World) (h : SV Q w d r s) (hz : r.nm.size ≤ 9223372036854775807) (hc : count s.cond ≤ 1099511627776) :
    Calls Tryz.prog 26 #[.agg #[.int .i64 r.num, .string r.nm, .int .i64 r.t.op, .int .i64 r.t.num, .int .i64 r.t.more, .slice r.t.p r.t.n r.t.c, .slice r.bp r.bn r.bc, .int .i64 r.least, .int .i64 r.ex, .bool r.needs], .int .i64 sq] w (ChkG (amtV s sq, amtE s sq) w) := by
  have CV := Lib.hid (refone_any d r s _ (h.below (balloc (Nat.le_refl _) (Below.refl _ _) (.cells (sCells r).toArray 32))) hz hc)
  have HR := Lib.hid h.br
  have HN := h.bn
  clear h hz hc
  obtain ⟨num, nm, ⟨o, tn, tm, tp, tl, tc⟩, bp, bn, bc, least, ex, needs⟩ := r
  simp only [sCells] at CV
  simp only at HR HN
  have HA := Lib.hid (balloc (Nat.le_refl _) (Below.refl w.heap.size w) (.cells #[.int .i64 num, .string nm, .int .i64 o, .int .i64 tn, .int .i64 tm, .slice tp tl tc, .slice bp bn bc, .int .i64 least, .int .i64 ex, .bool needs] 32))
  subst HN
  obtain ⟨v, ev⟩ : ∃ v, one17 s = v := ⟨_, rfl⟩
  rw [ev] at CV
  obtain ⟨cv, ecv⟩ : ∃ v, (amtV s sq, amtE s sq) = v := ⟨_, rfl⟩
  rw [ecv]
  have ECV := Lib.hid ecv
  have EV := Lib.hid ev
  clear ecv ev
  by_cases hv0 : v = 0
  rotate_left
  · have HV := Lib.hid (show cv = (0, 17) from by
      have e : amtE s sq = 17 := by unfold amtE; rw [if_pos (by rw [EV.out]; exact hv0)]
      rw [← ECV.out, e, amtV_zero (by rw [e]; decide)])
    have hne : (v != 0) = true := by simpa using hv0
    clear hv0
    go_enter Tryz.func26, Tryz.ntmps26
    go_wp2_with (first | (go_at_call 48; (with_reducible refine Calls.mono CV.out ?_); rintro e w1 ⟨rfl, hb1⟩; have HB1 := Lib.hid (bstep (Nat.le_refl _) HA.out hb1); have k1 := (hb1.cell (p := ⟨w.heap.size, 6, none⟩) (by simp)).trans (World.cell?_alloc_new _ _ _ _); clear hb1))
    go_ret2
    exact ⟨by rw [HV.out]; rfl, HB1.out⟩
  subst hv0
  by_cases hs : sq < 0 ∨ 268435456 < sq
  · have HV := Lib.hid (show cv = (0, 2) from by
      have e : amtE s sq = 2 := by unfold amtE; rw [if_neg (by rw [EV.out]; decide), if_pos hs]
      rw [← ECV.out, e, amtV_zero (by rw [e]; decide)])
    have HS := Lib.hid hs
    clear hs
    by_cases h0 : sq < 0
    · go_enter Tryz.func26, Tryz.ntmps26
      go_wp2_with (first | (go_at_call 48; (with_reducible refine Calls.mono CV.out ?_); rintro e w1 ⟨rfl, hb1⟩; have HB1 := Lib.hid (bstep (Nat.le_refl _) HA.out hb1); have k1 := (hb1.cell (p := ⟨w.heap.size, 6, none⟩) (by simp)).trans (World.cell?_alloc_new _ _ _ _); clear hb1))
      go_ret2
      exact ⟨by rw [HV.out]; rfl, HB1.out⟩
    · have h1 : 268435456 < sq := by have := HS.out; omega
      go_enter Tryz.func26, Tryz.ntmps26
      go_wp2_with (first | (go_at_call 48; (with_reducible refine Calls.mono CV.out ?_); rintro e w1 ⟨rfl, hb1⟩; have HB1 := Lib.hid (bstep (Nat.le_refl _) HA.out hb1); have k1 := (hb1.cell (p := ⟨w.heap.size, 6, none⟩) (by simp)).trans (World.cell?_alloc_new _ _ _ _); clear hb1))
      go_ret2
      exact ⟨by rw [HV.out]; rfl, HB1.out⟩
  have hs0 : 0 ≤ sq := by omega
  have hs1 : sq ≤ 268435456 := by omega
  have HV := Lib.hid (show cv = (amt s.br sq s.br.length / 100, 0) from by rw [← ECV.out, amtE_zero EV.out hs0 hs1, amtV_ok (amtE_zero EV.out hs0 hs1)])
  have HBR := Lib.hid (one_br EV.out)
  have BA := Lib.hid (show brAll s.br s.br.length = true from by have := HBR.out; unfold brB at this; rw [Bool.and_eq_true] at this; exact this.1)
  clear hs
  obtain ⟨l, el⟩ : ∃ l, s.br = l := ⟨_, rfl⟩
  rw [el] at HR HV BA CV HA ⊢
  have hlen := HR.out.len
  clear el HBR
  go_enter Tryz.func26, Tryz.ntmps26
  go_wp2_with (first | (go_at_call 48; (with_reducible refine Calls.mono CV.out ?_); rintro e w1 ⟨rfl, hb1⟩; have HB1 := Lib.hid (bstep (Nat.le_refl _) HA.out hb1); have k1 := (hb1.cell (p := ⟨w.heap.size, 6, none⟩) (by simp)).trans (World.cell?_alloc_new _ _ _ _); clear hb1))
  go_loopw [6, 7, 22] (fun a b i wr => ∃ k : Nat, k ≤ l.length ∧ i = .int .i64 k ∧ a = .int .i64 (amt l sq k) ∧ b = .int .i64 (upB l k) ∧ Below w.heap.size w wr) (fun _ _ i _ => l.length - (intOf i).toNat)
  case atStart => exact ⟨0, Nat.zero_le _, rfl, rfl, by unfold upB; simp, HB1.out⟩
  case round =>
    obtain ⟨wo, rfl⟩ : ∃ wo : World, wo = wr := ⟨_, rfl⟩
    obtain ⟨k, hk, rfl, rfl, rfl, hb⟩ := hrel
    have HB := Lib.hid hb
    have hk0 : (0 : Int) ≤ (k : Int) := Int.natCast_nonneg _
    have AL := amt_le (sq := sq) hk (brAll_mono hk BA.out)
    have UL := upB_le hk (brAll_mono hk BA.out)
    by_cases hlt : k < l.length
    · have hk1 : (k : Int) < (l.length : Int) := by omega
      obtain ⟨b, off, x, rfl, hbl, x0, x1, hx⟩ := SBk_at (HR.out.below hb) hlt
      have BR := br_right hlt (brAll_mono (by omega) BA.out)
      have AS := amt_succ (sq := sq) hlt
      have US := upB_succ hlt
      rw [hx.out] at BR AS US
      obtain ⟨up, rate⟩ := x
      simp only at x0 x1 BR AS US
      obtain ⟨b1, b2, b3, b4, b5⟩ := BR
      obtain ⟨last, elast⟩ : ∃ x, upB l k = x := ⟨_, rfl⟩
      obtain ⟨sum, esum⟩ : ∃ x, amt l sq k = x := ⟨_, rfl⟩
      rw [elast] at b1 b5 AL AS UL ⊢
      rw [esum] at AL AS ⊢
      obtain ⟨l0, l1⟩ := AL
      have pl := part_le (a := max 0 (min sq up - last)) (b := up - last) (by omega) (by omega) b3 b4
      obtain ⟨X, eX⟩ : ∃ X, max 0 (min sq up - last) * rate = X := ⟨_, rfl⟩
      rw [eX] at pl AS
      have AS0 := Lib.hid AS
      clear AS
      have US0 := Lib.hid US
      clear US
      have hwX : IntKind.i64.wrap (max 0 (min sq up - last) * rate) = X := by rw [eX, IntKind.wrap_i64]; omega
      have hwd : IntKind.i64.wrap (min sq up - last) = min sq up - last := by rw [IntKind.wrap_i64]; omega
      have pl0 := pl.1
      have pl1 : X ≤ 1125899906842624 := by omega
      have l1' : sum ≤ 1125899906842624 := by omega
      have HBJ := Lib.hid (balloc (Nat.le_refl _) hb (.cells #[.int .i64 up, .int .i64 rate] 34))
      clear hb hx elast esum eX pl l1 b1 b2 b3 b4 b5 UL
      go_wp2
      go_roundw
      case rel => exact ⟨k + 1, by omega, by go_num, by rw [AS0.out], by rw [US0.out], HBJ.out⟩
      case measure => simp [intOf]; omega
    · obtain rfl : k = l.length := by omega
      have h0 : 0 ≤ amt l sq l.length := AL.1
      have h1 : amt l sq l.length ≤ 1125899906842624 := by omega
      have DN := Lib.hid (refdown100_any (amt l sq l.length) h0 h1 wo)
      clear hb AL UL h0 h1
      go_wp2_with (first | (go_at_call 52; (with_reducible refine Calls.mono DN.out ?_); rintro e w1 ⟨rfl, rfl⟩))
      go_ret2
      exact ⟨by rw [HV.out]; rfl, HB.out⟩

end Go.Proofs.YtflcdkibjakciaaGreatDoor

namespace Go.Proofs.YtflcdkibjakciaaGreatDoor
open Go.RowKit Te Sc

/-- The reader lies in block t: the schemes, and the last one that was excluded. -/
structure RdrAt (wr : World) (t : Nat) (out : List Sch) (last : Int) : Prop where
  v : ∃ v, wr.cell? ⟨t, 0, none⟩ = some v ∧ BldAt (t + 1) wr v out
  last : wr.cell? ⟨t, 1, none⟩ = some (.int .i64 last)
  fr : ∀ i, wr.frozen? ⟨t, i, none⟩ = false
  lt : t < wr.heap.size

theorem RdrAt.below {wr w' : World} {t : Nat} {out : List Sch} {last : Int} (h : RdrAt wr t out last) (hb : Below wr.heap.size wr w') : RdrAt w' t out last := by
  obtain ⟨⟨v, h1, h2⟩, h3, h4, h5⟩ := h
  exact ⟨⟨v, (hb.cell (p := ⟨t, 0, none⟩) h5).trans h1, h2.below hb⟩, (hb.cell (p := ⟨t, 1, none⟩) h5).trans h3, fun i => (hb.frozen (p := ⟨t, i, none⟩) h5).trans (h4 i), Nat.lt_of_lt_of_le h5 hb.size⟩

theorem setCell_frz (w : World) (a b : Addr) (u : Value) : (w.setCell a u).frozen? b = w.frozen? b := by simp

theorem RdrAt.stored {w7 : World} {t : Nat} {v7 x0 x1 : Value} {out : List Sch} (hB : BldAt (t + 1) w7 v7 out) (h0 : w7.cell? ⟨t, 0, none⟩ = some x0) (h1 : w7.cell? ⟨t, 1, none⟩ = some x1) (hf : ∀ i, w7.frozen? ⟨t, i, none⟩ = false) (l : Int) : RdrAt ((w7.setCell ⟨t, 0, none⟩ v7).setCell ⟨t, 1, none⟩ (.int .i64 l)) t out l := by
  have hl := World.block_lt_of_cell? _ _ h0
  refine ⟨⟨v7, ?_, hB.blocks (by rw [setCell_sz, setCell_sz]; exact Nat.le_refl _) fun b hb _ => by rw [setCell_far _ (by omega), setCell_far _ (by omega)]⟩, ?_, fun i => by rw [setCell_frz, setCell_frz]; exact hf i, by rw [setCell_sz, setCell_sz]; exact hl⟩
  · rw [World.cell?_setCell_other _ _ _ _ (fun e => by cases e)]
    exact World.cell?_setCell_same _ _ _ h0
  · exact World.cell?_setCell_same _ _ _ ((World.cell?_setCell_other _ _ _ _ (fun e => by cases e)).trans h1)

/-- The row of schemes was written. -/
theorem RdrAt.row {w W5 W6 : World} {t g : Nat} {v : Value} {out A : List Sch} {s : Sch} {last : Int} (h : RdrAt w t out last) (h0 : w.cell? ⟨t, 0, none⟩ = some v) (hb : Below w.heap.size w W5) (hsz : W6.heap.size = W5.heap.size) (far : ∀ b, b ≠ g → W6.heap[b]? = W5.heap[b]?) (hg : t + 1 ≤ g) (hB : Bld (t + 1) W6 v A s) : RdrAt W6 t (A ++ [s]) last := by
  have h5 := h.below hb
  have hc : ∀ i, W6.cell? ⟨t, i, none⟩ = W5.cell? ⟨t, i, none⟩ := fun i => World.cell?_of_block (w := W5) (a := ⟨t, i, none⟩) (far t (by omega))
  have hf : ∀ i, W6.frozen? ⟨t, i, none⟩ = W5.frozen? ⟨t, i, none⟩ := fun i => by simp only [World.frozen?, far t (show t ≠ g by omega)]
  exact ⟨⟨v, (hc 0).trans ((hb.cell (p := ⟨t, 0, none⟩) h.lt).trans h0), .inr ⟨A, s, rfl, hB⟩⟩, (hc 1).trans h5.last, fun i => (hf i).trans (h5.fr i), by rw [hsz]; exact h5.lt⟩

theorem RdrAt.row2 {w W6 : World} {t : Nat} {v : Value} {out A : List Sch} {s : Sch} {last : Int} (h : RdrAt w t out last) (h0 : w.cell? ⟨t, 0, none⟩ = some v) (ht : W6.heap[t]? = w.heap[t]?) (hs : t < W6.heap.size) (hB : Bld (t + 1) W6 v A s) : RdrAt W6 t (A ++ [s]) last := by
  have hc : ∀ i, W6.cell? ⟨t, i, none⟩ = w.cell? ⟨t, i, none⟩ := fun i => World.cell?_of_block (w := w) (a := ⟨t, i, none⟩) ht
  have hf : ∀ i, W6.frozen? ⟨t, i, none⟩ = w.frozen? ⟨t, i, none⟩ := fun i => by simp only [World.frozen?, ht]
  exact ⟨⟨v, (hc 0).trans h0, .inr ⟨A, s, rfl, hB⟩⟩, (hc 1).trans h.last, fun i => (hf i).trans (h.fr i), hs⟩

/-- The last row of a law that is not empty. -/
theorem RdrAt.lastRow {w : World} {t : Nat} {A : List Sch} {s0 : Sch} {last : Int} (h : RdrAt w t (A ++ [s0]) last) : ∃ g cc, w.cell? ⟨t, 0, none⟩ = some (.slice (some ⟨g, 0, none⟩) (A.length + 1) cc) ∧ t + 1 ≤ g ∧ g < w.heap.size ∧ Bld (t + 1) w (.slice (some ⟨g, 0, none⟩) (A.length + 1) cc) A s0 ∧ (∃ rr, SCells w g (A.length * 10) rr ∧ rr.ex = s0.ex) ∧ (∀ i, w.frozen? ⟨g, i, none⟩ = false) := by
  obtain ⟨⟨v, h0, hB⟩, -, -, h5⟩ := h
  rcases hB with ⟨e, -⟩ | ⟨A', s', e, hB⟩
  · exact absurd e (by simp)
  · obtain ⟨rfl, rfl⟩ := snoc_inj e
    have hB2 := hB
    obtain ⟨d, R, rr, lb, k1, k2⟩ := hB2
    obtain ⟨g, cc, rfl, a1, a2, a3, a4, a5, -⟩ := k1.at
    exact ⟨g, cc, h0, a1, a2, hB, ⟨rr, a4, k2.ex⟩, a5⟩

theorem RdrAt.setLast {wr : World} {t : Nat} {out : List Sch} {last : Int} (h : RdrAt wr t out last) (l : Int) : RdrAt (wr.setCell ⟨t, 1, none⟩ (.int .i64 l)) t out l := by
  obtain ⟨⟨v, h1, h2⟩, h3, h4, h5⟩ := h
  exact ⟨⟨v, (World.cell?_setCell_other _ _ _ _ (fun e => by cases e)).trans h1, h2.blocks (by rw [setCell_sz]; exact Nat.le_refl _) fun b hb _ => setCell_far _ (by omega) _ _⟩, World.cell?_setCell_same _ _ _ h3, fun i => by rw [setCell_frz]; exact h4 i, by rw [setCell_sz]; exact h5⟩

/-- A state function, and what it leaves. -/
def stF (F t : Nat) : Value := .func (.func F) #[.pointer (some ⟨t, 0, none⟩)] #[]
def StG (F t : Nat) (out : List Sch) (last : Int) (w : World) (e : Ending) (w' : World) : Prop := e = .returned (.tuple #[stF F t, .int .i64 0]) ∧ RdrAt w' t out last ∧ Below t w w'
def StE (t : Nat) (er : Int) (w : World) (e : Ending) (w' : World) : Prop := (∃ f, e = .returned (.tuple #[f, .int .i64 er])) ∧ Below t w w'

theorem num0_eq (a : List UInt8) (most : Int) : num0 a most = if Wo.numB a 0 most = true then some (Wo.numV a 0 most) else none := by
  unfold num0 Wo.numB Wo.numV
  cases Wo.numO a with
  | none => simp
  | some v =>
    simp only
    by_cases h : v < 0 ∨ most < v
    · rw [if_pos h, if_pos h]; simp
    · rw [if_neg h, if_neg h, if_neg h]; simp

set_option maxHeartbeats 1000000 in
theorem now17_any (t g n c : Nat) (w : World) (h0 : w.cell? ⟨t, 0, none⟩ = some (.slice (some ⟨g, 0, none⟩) (n + 1) c)) (hn : n + 1 ≤ 9223372036854775807) :
    Calls Tryz.prog 87 #[.pointer (some ⟨t, 0, none⟩)] w (fun e w' => e = .returned (.pointer (some ⟨g, n * 10, none⟩)) ∧ ∃ m, w' = w.drewN m) := by
  obtain ⟨k, ek⟩ : ∃ k : Nat, n + 1 = k := ⟨_, rfl⟩
  rw [ek] at h0 hn
  obtain ⟨i, ei⟩ : ∃ i : Int, (k : Int) - 1 = i := ⟨_, rfl⟩
  have hw : IntKind.i64.wrap i = i := by rw [IntKind.wrap_i64]; omega
  have hi0 : 0 ≤ i := by omega
  have hi1 : i < (k : Int) := by omega
  have hit : i.toNat = n := by omega
  clear ek hn
  go_enter Tryz.func87, Tryz.ntmps87
  go_wp2
  go_quiet (fail)
  go_wp2
  go_ret
  exact ⟨rfl, _, rfl⟩

set_option maxHeartbeats 1000000 in
theorem number17_any (s : ByteArray) (w : World) (hE : Env w) (hs : s.size ≤ 281474976710656) : Calls Tryz.prog 85 #[.string s] w (NumGive s.data.toList 0 268435456 w) := by
  have NU := Lib.hid (number_any s 0 268435456 w hE hs)
  unfold NumGive at NU ⊢
  clear hE hs
  go_enter Tryz.func85, Tryz.ntmps85
  go_wp2_with (first | (go_at_call 84; (with_reducible refine Calls.mono NU.out ?_); rintro e w1 ⟨rfl, hb1⟩))
  go_ret2
  exact ⟨rfl, hb1⟩

set_option maxHeartbeats 1000000 in
theorem refnumber17_any (s : ByteArray) (most : Int) (w : World) (hs : s.size ≤ 9223372036854775807) : Calls Tryz.prog 56 #[.string s, .int .i64 most] w (NumGive s.data.toList 0 most w) := by
  have NU := Lib.hid (refnumber_any s 0 most w hs)
  unfold NumGive at NU ⊢
  clear hs
  go_enter Tryz.func56, Tryz.ntmps56
  go_wp2_with (first | (go_at_call 95; (with_reducible refine Calls.mono NU.out ?_); rintro e w1 ⟨rfl, hb1⟩))
  go_ret2
  exact ⟨rfl, hb1⟩

end Go.Proofs.YtflcdkibjakciaaGreatDoor
