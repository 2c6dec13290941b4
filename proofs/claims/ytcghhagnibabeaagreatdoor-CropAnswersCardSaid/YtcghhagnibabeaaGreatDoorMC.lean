/-
  MERGED (mergek.py): the texts K1, K2, K3, K4, K5, K6.
-/
import Derived.Test.YtcghhagnibabeaaGreatDoorGr
import Derived.Test.YtcghhagnibabeaaGreatDoorMA
import Derived.Test.YtcghhagnibabeaaGreatDoorKp
import Derived.Test.YtcghhagnibabeaaGreatDoorBs
import Derived.Test.YtcghhagnibabeaaGreatDoorW3

namespace Go.Proofs.YtcghhagnibabeaaGreatDoor
open Go.RowKit Cr

def cCells (c : Crp) : List Value := [.string c.nm, .int .i64 c.fam, .int .i64 c.mrk]

def SC : Shape Crp := ⟨3, cCells, fun _ => rfl, by decide, fun a u hu => by
  simp only [cCells, List.mem_cons, List.not_mem_nil, or_false] at hu
  rcases hu with rfl | rfl | rfl <;> rfl⟩

/-- A slice of crops. -/
abbrev Crops (w : World) (p : Option Addr) (L : List Crp) : Prop := Recs SC w p L

/-- The three cells of a crop. -/
structure CAt (w : World) (b o : Nat) (c : Crp) : Prop where
  c0 : w.cell? ⟨b, o, none⟩ = some (.string c.nm)
  c1 : w.cell? ⟨b, o + 1, none⟩ = some (.int .i64 c.fam)
  c2 : w.cell? ⟨b, o + 2, none⟩ = some (.int .i64 c.mrk)

theorem CAt.below {w w' : World} {b o : Nat} {c : Crp} {B : Nat} (h : CAt w b o c) (hb : Below B w w') (hB : b < B) : CAt w' b o c :=
  ⟨(hb.cell (p := ⟨b, o, none⟩) hB).trans h.c0, (hb.cell (p := ⟨b, o + 1, none⟩) hB).trans h.c1, (hb.cell (p := ⟨b, o + 2, none⟩) hB).trans h.c2⟩

theorem CAt.of {w : World} {b o : Nat} {c : Crp} (h : ∀ i u, (cCells c)[i]? = some u → w.cell? ⟨b, o + i, none⟩ = some u) : CAt w b o c :=
  ⟨h 0 _ rfl, h 1 _ rfl, h 2 _ rfl⟩

theorem SC_at {w : World} {p : Option Addr} {L : List Crp} (h : Crops w p L) {k : Nat} (hk : k < L.length) :
    ∃ b off c, p = some ⟨b, off, none⟩ ∧ b < w.heap.size ∧ CAt w b (off + k * 3) c ∧ Hid (L[k] = c) := by
  obtain ⟨b, off, hp, hb, hc⟩ := h.at hk
  exact ⟨b, off, _, hp, hb, CAt.of (c := L[k]) hc, rfl⟩

theorem info_crp : (Tryz.prog.info? 31).map (fun i => (i.zero, i.size, i.bytes)) = some (some (.agg #[.string ByteArray.empty, .int .i64 0, .int .i64 0]), 3, 32) := by kernel_rfl

theorem el_crp : Elem SC Tryz.prog 31 23 32 := by
  obtain ⟨i0, h1, h2, h3, h4⟩ := info_parts info_crp
  exact ⟨⟨i0, _, h1, h2, h3, h4, rfl⟩, Tryz.underlying23⟩

end Go.Proofs.YtcghhagnibabeaaGreatDoor

namespace Go.Proofs.YtcghhagnibabeaaGreatDoor
open Go.RowKit Cr

def ChkGive (L : List Crp) (w : World) (e : Ending) (w' : World) : Prop := e = .returned (.int .i64 (chk L)) ∧ Below w.heap.size w w'

theorem one_cases (c : Crp) : (Wo.nameB c.nm.data.toList = false ∧ cErr c = 5) ∨ (Wo.nameB c.nm.data.toList = true ∧ c.fam < 0 ∧ cErr c = 2) ∨ (Wo.nameB c.nm.data.toList = true ∧ 0 ≤ c.fam ∧ 40 < c.fam ∧ cErr c = 2) ∨
    (Wo.nameB c.nm.data.toList = true ∧ 0 ≤ c.fam ∧ c.fam ≤ 40 ∧ c.mrk < 0 ∧ cErr c = 14) ∨ (Wo.nameB c.nm.data.toList = true ∧ 0 ≤ c.fam ∧ c.fam ≤ 40 ∧ 0 ≤ c.mrk ∧ 31 < c.mrk ∧ cErr c = 14) ∨
    (Wo.nameB c.nm.data.toList = true ∧ 0 ≤ c.fam ∧ c.fam ≤ 40 ∧ 0 ≤ c.mrk ∧ c.mrk ≤ 31 ∧ cErr c = 0) := by
  unfold cErr
  cases hn : Wo.nameB c.nm.data.toList with
  | false => left; exact ⟨rfl, by rw [if_pos rfl]⟩
  | true =>
    right
    rw [if_neg (by simp)]
    by_cases h1 : c.fam < 0
    · left; exact ⟨rfl, h1, by rw [if_pos (.inl h1)]⟩
    right
    by_cases h2 : 40 < c.fam
    · left; exact ⟨rfl, by omega, h2, by rw [if_pos (.inr h2)]⟩
    right
    rw [if_neg (by omega)]
    by_cases h3 : c.mrk < 0
    · left; exact ⟨rfl, by omega, by omega, h3, by rw [if_pos (.inl h3)]⟩
    right
    by_cases h4 : 31 < c.mrk
    · left; exact ⟨rfl, by omega, by omega, by omega, h4, by rw [if_pos (.inr h4)]⟩
    right
    exact ⟨rfl, by omega, by omega, by omega, by omega, by rw [if_neg (by omega)]⟩

theorem chk_long {L : List Crp} (h : 40 < L.length) : chk L = 1 := by unfold chk; rw [if_pos h]
theorem chk_scan {L : List Crp} (h : ¬ 40 < L.length) : scan (prevC L 0) (L.drop 0) = chk L := by unfold chk; rw [if_neg h]; rfl
theorem scan_end {L : List Crp} : scan (prevC L L.length) (L.drop L.length) = 0 := by rw [List.drop_length]; cases prevC L L.length <;> rfl

set_option maxRecDepth 100000 in
set_option maxHeartbeats 8000000 in
theorem check12_any (p : Option Addr) (L : List Crp) (cap : Nat) (w : World) (h : Crops w p L) (hz : ∀ c ∈ L, c.nm.size ≤ 9223372036854775807) :
    Calls Tryz.prog 22 #[.slice p L.length cap] w (ChkGive L w) := by
  have hn := h.len
  by_cases h4 : 40 < L.length
  · have HC := Lib.hid (chk_long h4)
    have h4' : (40 : Int) < (L.length : Int) := by omega
    clear h h4
    go_enter Tryz.func22, Tryz.ntmps22
    go_wp2
    go_ret
    exact ⟨by rw [HC.out]; rfl, Below.refl _ _⟩
  have g4 : ¬ (40 : Int) < (L.length : Int) := by omega
  have HS := Lib.hid (chk_scan h4)
  have H := Lib.hid h
  have HZ := Lib.hid hz
  clear h h4 hz
  go_enter Tryz.func22, Tryz.ntmps22
  go_wp2
  go_loopw [10] (fun i wr => ∃ k : Nat, k ≤ L.length ∧ i = .int .i64 k ∧ scan (prevC L k) (L.drop k) = chk L ∧ Below w.heap.size w wr) (fun i _ => L.length - (intOf i).toNat)
  case atStart => exact ⟨0, Nat.zero_le _, rfl, HS.out, Below.refl _ _⟩
  case round =>
    clear HS
    obtain ⟨wo, rfl⟩ : ∃ wo : World, wo = wr := ⟨_, rfl⟩
    obtain ⟨k, hk, rfl, hs, hb⟩ := hrel
    have HS := Lib.hid hs
    have HB := Lib.hid hb
    have hk0 : (0 : Int) ≤ (k : Int) := Int.natCast_nonneg _
    clear hs
    by_cases hlt : k < L.length
    · have hk1 : (k : Int) < (L.length : Int) := by omega
      obtain ⟨b, off, c, rfl, hbl, hC, hc⟩ := SC_at (H.out.below hb) hlt
      have HH := Lib.hid (H.out.below hb)
      have hcz : c.nm.size ≤ 9223372036854775807 := by rw [← hc.out]; exact HZ.out _ (List.getElem_mem hlt)
      obtain ⟨nb, enb⟩ : ∃ x, Wo.nameB c.nm.data.toList = x := ⟨_, rfl⟩
      have NM := Lib.hid (show ∀ W, Calls Tryz.prog 45 #[.string c.nm] W (fun e w' => e = .returned (.bool nb) ∧ W = w') from fun W => enb ▸ name_any c.nm W hcz)
      have hall := one_cases c
      rw [enb] at hall
      have H1 := Lib.hid (fun (er : Int) (h0 : er ≠ 0) (h : cErr c = er) => show chk L = er by
        rw [← HS.out, scan_one hlt (by rw [hc.out, h]; exact h0), hc.out, h])
      obtain ⟨c0, c1, c2⟩ := hC
      obtain ⟨nm, fam, mrk⟩ := c
      simp only at c0 c1 c2 hall H1 hcz NM
      clear enb hb
      have fin : ∀ er : Int, er ≠ 0 → cErr ⟨nm, fam, mrk⟩ = er → Hid (ChkGive L w (.returned (.int .i64 er)) (wo.alloc (.cells #[.string nm, .int .i64 fam, .int .i64 mrk] 31))) := fun er h0 h => Lib.hid ⟨by rw [H1.out er h0 h], balloc (Nat.le_refl _) HB.out _⟩
      have FIN := Lib.hid fin
      clear fin H1
      rcases hall with ⟨rfl, h1⟩ | ⟨rfl, h2, h1⟩ | ⟨rfl, h2, h3, h1⟩ | ⟨rfl, h2, h3, h4, h1⟩ | ⟨rfl, h2, h3, h4, h5, h1⟩ | ⟨rfl, h2, h3, h4, h5, h1⟩
      · have HF := FIN.out _ (by decide) h1
        clear h1
        go_wp2_with (first | (go_at_call 45; (with_reducible refine Calls.mono (NM.out _) ?_); rintro e w1 ⟨rfl, rfl⟩))
        go_ret
        exact HF.out
      · have HF := FIN.out _ (by decide) h1
        clear h1
        go_wp2_with (first | (go_at_call 45; (with_reducible refine Calls.mono (NM.out _) ?_); rintro e w1 ⟨rfl, rfl⟩))
        go_ret
        exact HF.out
      · have HF := FIN.out _ (by decide) h1
        clear h1
        go_wp2_with (first | (go_at_call 45; (with_reducible refine Calls.mono (NM.out _) ?_); rintro e w1 ⟨rfl, rfl⟩))
        go_ret
        exact HF.out
      · have HF := FIN.out _ (by decide) h1
        clear h1
        go_wp2_with (first | (go_at_call 45; (with_reducible refine Calls.mono (NM.out _) ?_); rintro e w1 ⟨rfl, rfl⟩))
        go_ret
        exact HF.out
      · have HF := FIN.out _ (by decide) h1
        clear h1
        go_wp2_with (first | (go_at_call 45; (with_reducible refine Calls.mono (NM.out _) ?_); rintro e w1 ⟨rfl, rfl⟩))
        go_ret
        exact HF.out
      · have H1 := Lib.hid h1
        clear h1
        rcases Nat.eq_zero_or_pos k with hk00 | hkp
        · have HK := Lib.hid hk00
          have hk2 : decide (0 < k) = false := by rw [decide_eq_false_iff_not]; omega
          have HN := Lib.hid (show scan (prevC L (k + 1)) (L.drop (k + 1)) = chk L by
            rw [← HS.out]; exact (scan_step hlt (by rw [hc.out]; exact H1.out) (fun q hq => by rw [HK.out] at hq; cases hq)).symm)
          clear hk00
          go_wp2_with (first | (go_at_call 45; (with_reducible refine Calls.mono (NM.out _) ?_); rintro e w1 ⟨rfl, rfl⟩))
          go_quiet (fail)
          go_wp2
          go_roundw
          case rel => exact ⟨k + 1, by omega, by go_num, HN.out, (balloc (Nat.le_refl _) HB.out _).trans (drewN_below _ _ |>.mono (by have := HB.out.size; simp; omega))⟩
          case measure => simp [intOf]; omega
        · obtain ⟨m, rfl⟩ : ∃ m, k = m + 1 := ⟨k - 1, by omega⟩
          obtain ⟨b', off', q, eq, -, hQ, hq⟩ := SC_at HH.out (show m < L.length by omega)
          cases eq
          have hpv : prevC L (m + 1) = some q := by rw [ahead_succ, List.getElem?_eq_getElem (show m < L.length by omega), hq.out]
          have HP := Lib.hid hpv
          obtain ⟨q0, q1, q2⟩ := hQ
          obtain ⟨qn, qf, qm⟩ := q
          simp only at q0 q1 q2
          have hle := le_eq nm qn
          clear hpv q1 q2
          cases hl : Cr.lt qn nm with
          | true =>
            have HN := Lib.hid (show scan (prevC L (m + 1 + 1)) (L.drop (m + 1 + 1)) = chk L by
              rw [← HS.out]; exact (scan_step hlt (by rw [hc.out]; exact H1.out) (fun r hr => by rw [HP.out] at hr; injection hr with hr; subst hr; rw [hc.out]; exact hl)).symm)
            rw [hl, Bool.not_true] at hle
            clear hl
            go_wp2_with (first | (go_at_call 45; (with_reducible refine Calls.mono (NM.out _) ?_); rintro e w1 ⟨rfl, rfl⟩))
            go_quiet (fail)
            go_wp2
            go_roundw
            case rel => exact ⟨m + 1 + 1, by omega, by go_num, HN.out, (balloc (Nat.le_refl _) HB.out _).trans (drewN_below _ _ |>.mono (by have := HB.out.size; simp; omega))⟩
            case measure => simp [intOf]; omega
          | false =>
            have HN := Lib.hid (show chk L = 6 by
              rw [← HS.out]; exact scan_twice hlt (by rw [hc.out]; exact H1.out) HP.out (by rw [hc.out]; exact hl))
            rw [hl, Bool.not_false] at hle
            clear hl
            go_wp2_with (first | (go_at_call 45; (with_reducible refine Calls.mono (NM.out _) ?_); rintro e w1 ⟨rfl, rfl⟩))
            go_quiet (fail)
            go_wp2
            go_ret
            exact ⟨by rw [HN.out]; rfl, (balloc (Nat.le_refl _) HB.out _).trans (drewN_below _ _ |>.mono (by have := HB.out.size; simp; omega))⟩
    · obtain rfl : k = L.length := by omega
      have HN := Lib.hid (show chk L = 0 by rw [← HS.out, scan_end])
      clear hb
      go_wp2
      go_ret
      exact ⟨by rw [HN.out]; rfl, HB.out⟩
end Go.Proofs.YtcghhagnibabeaaGreatDoor

namespace Go.Proofs.YtcghhagnibabeaaGreatDoor
open Go.RowKit Cr

def OneGive (c : Crp) (w : World) (e : Ending) (w' : World) : Prop := e = .returned (.int .i64 (cErr c)) ∧ Below w.heap.size w w'

set_option maxHeartbeats 2000000 in
theorem refone12_any (c : Crp) (w : World) (hz : c.nm.size ≤ 9223372036854775807) : Calls Tryz.prog 46 #[.agg #[.string c.nm, .int .i64 c.fam, .int .i64 c.mrk]] w (OneGive c w) := by
  obtain ⟨nb, enb⟩ : ∃ x, Wo.nameB c.nm.data.toList = x := ⟨_, rfl⟩
  have NM := Lib.hid (show ∀ W, Calls Tryz.prog 48 #[.string c.nm] W (fun e w' => e = .returned (.bool nb) ∧ W = w') from fun W => enb ▸ refname_any c.nm W hz)
  have hall := one_cases c
  rw [enb] at hall
  have fin : ∀ er : Int, cErr c = er → Hid (OneGive c w (.returned (.int .i64 er)) (w.alloc (.cells #[.string c.nm, .int .i64 c.fam, .int .i64 c.mrk] 31))) := fun er h => Lib.hid ⟨by rw [h], (Below.refl _ _).alloc (Nat.le_refl _) _⟩
  have FIN := Lib.hid fin
  clear fin enb hz
  obtain ⟨nm, fam, mrk⟩ := c
  simp only at hall FIN NM ⊢
  rcases hall with ⟨rfl, h1⟩ | ⟨rfl, h2, h1⟩ | ⟨rfl, h2, h3, h1⟩ | ⟨rfl, h2, h3, h4, h1⟩ | ⟨rfl, h2, h3, h4, h5, h1⟩ | ⟨rfl, h2, h3, h4, h5, h1⟩
  all_goals
    have HF := FIN.out _ h1
    clear h1
    go_enter Tryz.func46, Tryz.ntmps46
    go_wp2_with (first | (go_at_call 48; (with_reducible refine Calls.mono (NM.out _) ?_); rintro e w1 ⟨rfl, rfl⟩))
    go_ret
    exact HF.out

set_option maxRecDepth 100000 in
set_option maxHeartbeats 8000000 in
theorem refcheck12_any (p : Option Addr) (L : List Crp) (cap : Nat) (w : World) (h : Crops w p L) (hz : ∀ c ∈ L, c.nm.size ≤ 9223372036854775807) :
    Calls Tryz.prog 23 #[.slice p L.length cap] w (ChkGive L w) := by
  have hn := h.len
  by_cases h4 : 40 < L.length
  · have HC := Lib.hid (chk_long h4)
    have h4' : (40 : Int) < (L.length : Int) := by omega
    clear h h4
    go_enter Tryz.func23, Tryz.ntmps23
    go_wp2
    go_ret
    exact ⟨by rw [HC.out]; rfl, Below.refl _ _⟩
  have g4 : ¬ (40 : Int) < (L.length : Int) := by omega
  have HS := Lib.hid (chk_scan h4)
  have H := Lib.hid h
  have HZ := Lib.hid hz
  clear h h4 hz
  go_enter Tryz.func23, Tryz.ntmps23
  go_wp2
  go_loopw [11] (fun i wr => ∃ k : Nat, k ≤ L.length ∧ i = .int .i64 k ∧ scan (prevC L k) (L.drop k) = chk L ∧ Below w.heap.size w wr) (fun i _ => L.length - (intOf i).toNat)
  case atStart => exact ⟨0, Nat.zero_le _, rfl, HS.out, Below.refl _ _⟩
  case round =>
    clear HS
    obtain ⟨wo, rfl⟩ : ∃ wo : World, wo = wr := ⟨_, rfl⟩
    obtain ⟨k, hk, rfl, hs, hb⟩ := hrel
    have HS := Lib.hid hs
    have HB := Lib.hid hb
    have hk0 : (0 : Int) ≤ (k : Int) := Int.natCast_nonneg _
    clear hs
    by_cases hlt : k < L.length
    · have hk1 : (k : Int) < (L.length : Int) := by omega
      obtain ⟨b, off, c, rfl, hbl, hC, hc⟩ := SC_at (H.out.below hb) hlt
      have HH := Lib.hid (H.out.below hb)
      have hcz : c.nm.size ≤ 9223372036854775807 := by rw [← hc.out]; exact HZ.out _ (List.getElem_mem hlt)
      obtain ⟨er, eer⟩ : ∃ x, cErr c = x := ⟨_, rfl⟩
      have ON := Lib.hid (show ∀ W, Calls Tryz.prog 46 #[.agg #[.string c.nm, .int .i64 c.fam, .int .i64 c.mrk]] W (fun e w' => e = .returned (.int .i64 er) ∧ Below W.heap.size W w') from fun W => eer ▸ refone12_any c W hcz)
      have H1 := Lib.hid (fun (h0 : er ≠ 0) => show chk L = er by
        rw [← HS.out, scan_one hlt (by rw [hc.out, eer]; exact h0), hc.out, eer])
      have H0 := Lib.hid eer
      obtain ⟨c0, c1, c2⟩ := hC
      obtain ⟨nm, fam, mrk⟩ := c
      simp only at c0 c1 c2 hcz ON
      have HA := Lib.hid (balloc (Nat.le_refl _) HB.out (.cells #[.string nm, .int .i64 fam, .int .i64 mrk] 31))
      have hsz : wo.heap.size < (wo.alloc (.cells #[.string nm, .int .i64 fam, .int .i64 mrk] 31)).heap.size := by simp
      have HSZ := Lib.hid hsz
      have A0 := Lib.hid (World.cell?_alloc_new wo #[.string nm, .int .i64 fam, .int .i64 mrk] 31 0)
      clear eer hb hsz
      by_cases he : er = 0
      rotate_left
      · have HC := Lib.hid (H1.out he)
        have hne : (er != 0) = true := by simpa using he
        clear he
        go_wp2_with (first | (go_at_call 46; (with_reducible refine Calls.mono (ON.out _) ?_); rintro e w1 ⟨rfl, hb1⟩))
        go_ret
        exact ⟨by rw [HC.out]; rfl, HA.out.trans (hb1.mono HA.out.size)⟩
      · subst he
        rcases Nat.eq_zero_or_pos k with hk00 | hkp
        · have HK := Lib.hid hk00
          have hk2 : decide (0 < k) = false := by rw [decide_eq_false_iff_not]; omega
          have HN := Lib.hid (show scan (prevC L (k + 1)) (L.drop (k + 1)) = chk L by
            rw [← HS.out]; exact (scan_step hlt (by rw [hc.out]; exact H0.out) (fun q hq => by rw [HK.out] at hq; cases hq)).symm)
          clear hk00
          go_wp2_with (first | (go_at_call 46; (with_reducible refine Calls.mono (ON.out _) ?_); rintro e w1 ⟨rfl, hb1⟩))
          go_quiet (fail)
          go_wp2
          go_roundw
          case rel => exact ⟨k + 1, by omega, by go_num, HN.out, (HA.out.trans (hb1.mono HA.out.size)).trans ((drewN_below _ _).mono (by have := HB.out.size; have := hb1.size; simp at this; omega))⟩
          case measure => simp [intOf]; omega
        · obtain ⟨m, rfl⟩ : ∃ m, k = m + 1 := ⟨k - 1, by omega⟩
          obtain ⟨b', off', q, eq, -, hQ, hq⟩ := SC_at HH.out (show m < L.length by omega)
          cases eq
          have hpv : prevC L (m + 1) = some q := by rw [ahead_succ, List.getElem?_eq_getElem (show m < L.length by omega), hq.out]
          have HP := Lib.hid hpv
          obtain ⟨q0, q1, q2⟩ := hQ
          obtain ⟨qn, qf, qm⟩ := q
          simp only at q0 q1 q2
          have Q0 := Lib.hid q0
          have hle := le_eq nm qn
          clear hpv q1 q2
          have arm : ∀ w1 : World, Below (wo.alloc (.cells #[.string nm, .int .i64 fam, .int .i64 mrk] 31)).heap.size (wo.alloc (.cells #[.string nm, .int .i64 fam, .int .i64 mrk] 31)) w1 → w1.cell? ⟨wo.heap.size, 0, none⟩ = some (.string nm) ∧ w1.cell? ⟨b, off + m * 3, none⟩ = some (.string qn) := fun w1 hb1 =>
            ⟨(hb1.cell (p := ⟨wo.heap.size, 0, none⟩) HSZ.out).trans A0.out, ((((Below.refl wo.heap.size wo).alloc (Nat.le_refl _) _).trans (hb1.mono (Nat.le_of_lt HSZ.out))).cell (p := ⟨b, off + m * 3, none⟩) hbl).trans Q0.out⟩
          have ARM := Lib.hid arm
          clear arm q0
          cases hl : Cr.lt qn nm with
          | true =>
            have HN := Lib.hid (show scan (prevC L (m + 1 + 1)) (L.drop (m + 1 + 1)) = chk L by
              rw [← HS.out]; exact (scan_step hlt (by rw [hc.out]; exact H0.out) (fun r hr => by rw [HP.out] at hr; injection hr with hr; subst hr; rw [hc.out]; exact hl)).symm)
            rw [hl, Bool.not_true] at hle
            clear hl
            have q0 := Q0.out
            go_wp2_with (first | (go_at_call 46; (with_reducible refine Calls.mono (ON.out _) ?_); rintro e w1 ⟨rfl, hb1⟩; obtain ⟨d0, d1⟩ := ARM.out w1 hb1))
            go_quiet (fail)
            go_wp2
            go_roundw
            case rel => exact ⟨m + 1 + 1, by omega, by go_num, HN.out, (HA.out.trans (hb1.mono HA.out.size)).trans ((drewN_below _ _).mono (by have := HB.out.size; have := hb1.size; simp at this; omega))⟩
            case measure => simp [intOf]; omega
          | false =>
            have HN := Lib.hid (show chk L = 6 by
              rw [← HS.out]; exact scan_twice hlt (by rw [hc.out]; exact H0.out) HP.out (by rw [hc.out]; exact hl))
            rw [hl, Bool.not_false] at hle
            clear hl
            have q0 := Q0.out
            go_wp2_with (first | (go_at_call 46; (with_reducible refine Calls.mono (ON.out _) ?_); rintro e w1 ⟨rfl, hb1⟩; obtain ⟨d0, d1⟩ := ARM.out w1 hb1))
            go_quiet (fail)
            go_wp2
            go_ret
            exact ⟨by rw [HN.out]; rfl, (HA.out.trans (hb1.mono HA.out.size)).trans ((drewN_below _ _).mono (by have := HB.out.size; have := hb1.size; simp at this; omega))⟩
    · obtain rfl : k = L.length := by omega
      have HN := Lib.hid (show chk L = 0 by rw [← HS.out, scan_end])
      clear hb
      go_wp2
      go_ret
      exact ⟨by rw [HN.out]; rfl, HB.out⟩
end Go.Proofs.YtcghhagnibabeaaGreatDoor

namespace Go.Proofs.YtcghhagnibabeaaGreatDoor
open Go.RowKit Cr

theorem find_none {L : List Crp} {nm : ByteArray} (h : ∀ j (hj : j < L.length), (L[j].nm.toList == nm.toList) = false) : find L nm = -1 := by
  unfold find
  have : (L.findIdx? fun c => c.nm.toList == nm.toList) = none := by
    rw [List.findIdx?_eq_none_iff]
    intro c hc
    obtain ⟨j, hj, rfl⟩ := List.mem_iff_getElem.1 hc
    exact h j hj
  rw [this]

theorem find_at {L : List Crp} {nm : ByteArray} {k : Nat} (hk : k < L.length) (h : ∀ j (hj : j < L.length), j < k → (L[j].nm.toList == nm.toList) = false) (h1 : (L[k].nm.toList == nm.toList) = true) : find L nm = (k : Int) := by
  unfold find
  have : (L.findIdx? fun c => c.nm.toList == nm.toList) = some k := by
    rw [List.findIdx?_eq_some_iff_getElem]
    exact ⟨hk, h1, fun j hj => by rw [h j (by omega) hj]; simp⟩
  rw [this]

theorem find_bd (L : List Crp) (nm : ByteArray) : -1 ≤ find L nm ∧ find L nm < L.length := by
  unfold find
  cases h : (L.findIdx? fun c => c.nm.toList == nm.toList) with
  | none => simp only; omega
  | some k =>
    have := (List.findIdx?_eq_some_iff_getElem.1 h).1
    simp only; omega

theorem find_has (L : List Crp) (nm : ByteArray) : decide (0 ≤ find L nm) = L.any fun c => c.nm.toList == nm.toList := by
  unfold find
  cases h : (L.findIdx? fun c => c.nm.toList == nm.toList) with
  | none =>
    have h2 : (L.any fun c => c.nm.toList == nm.toList) = false := by
      rw [List.any_eq_false]
      intro c hc
      have := (List.findIdx?_eq_none_iff.1 h) c hc
      simpa using this
    rw [h2]; rfl
  | some k =>
    obtain ⟨hk, h1, -⟩ := List.findIdx?_eq_some_iff_getElem.1 h
    have h2 : (L.any fun c => c.nm.toList == nm.toList) = true := List.any_eq_true.2 ⟨L[k], List.getElem_mem hk, h1⟩
    rw [h2]
    simp

def IntGive (v : Int) (w : World) (e : Ending) (w' : World) : Prop := e = .returned (.int .i64 v) ∧ Below w.heap.size w w'

theorem findp_any (c : Crp) (nb : Nat) (nm : ByteArray) (w : World) (hc : w.cell? ⟨nb, 0, none⟩ = some (.string nm)) (hl : nb < w.heap.size) :
    Calls Tryz.prog 32 #[.agg #[.string c.nm, .int .i64 c.fam, .int .i64 c.mrk], .pointer (some ⟨nb, 0, none⟩)] w fun e w' => e = .returned (.bool (c.nm.toList == nm.toList)) ∧ Below w.heap.size w w' := by
  obtain ⟨n, f, m⟩ := c
  simp only
  go_enter Tryz.func32, Tryz.ntmps32
  go_wp2
  go_ret
  exact ⟨rfl, (Below.refl _ _).alloc (Nat.le_refl _) _⟩

set_option maxRecDepth 100000 in
set_option maxHeartbeats 2000000 in
theorem indexcrop_any (p : Option Addr) (L : List Crp) (cap nb : Nat) (nm : ByteArray) (w : World) (h : Crops w p L) (hc : w.cell? ⟨nb, 0, none⟩ = some (.string nm)) (hl : nb < w.heap.size) :
    Calls Tryz.prog 31 #[.slice p L.length cap, .func (.func 32) #[] #[.pointer (some ⟨nb, 0, none⟩)]] w (IntGive (find L nm) w) := by
  have hn := h.len
  have H := Lib.hid h
  have HC := Lib.hid hc
  clear h hc
  go_enter Tryz.func31, Tryz.ntmps31
  go_wp2
  go_loopw [8] (fun i wr => ∃ k : Nat, k ≤ L.length ∧ i = .int .i64 k ∧ (∀ j (hj : j < L.length), j < k → (L[j].nm.toList == nm.toList) = false) ∧ Below w.heap.size w wr) (fun i _ => L.length - (intOf i).toNat)
  case atStart => exact ⟨0, Nat.zero_le _, rfl, fun j hj hk => absurd hk (Nat.not_lt_zero j), Below.refl _ _⟩
  case round =>
    obtain ⟨k, hk, rfl, hall, hb⟩ := hrel
    have HA := Lib.hid hall
    have HB := Lib.hid hb
    have hsz := hb.size
    have hk0 : (0 : Int) ≤ (k : Int) := Int.natCast_nonneg _
    by_cases hlt : k < L.length
    · obtain ⟨b, off, c, rfl, hbl, hC, hcc⟩ := SC_at (H.out.below hb) hlt
      have hnc := (hb.cell (p := ⟨nb, 0, none⟩) hl).trans HC.out
      have hnl : nb < wr.heap.size := by omega
      have CE := Lib.hid (findp_any c nb nm wr hnc hnl)
      obtain ⟨c0, c1, c2⟩ := hC
      have hk1 : (k : Int) < (L.length : Int) := by omega
      clear hall hb hnc
      cases hz : (c.nm.toList == nm.toList)
      · have HN := Lib.hid (show (L[k].nm.toList == nm.toList) = false by rw [hcc.out]; exact hz)
        rw [hz] at CE
        obtain ⟨cn, cf, cm⟩ := c
        simp only at c0 c1 c2 CE
        clear hz
        go_wp2_with (first | (go_at_call 32; (with_reducible refine Calls.mono CE.out ?_); rintro e w1 ⟨rfl, hb1⟩))
        go_roundw
        case rel => exact ⟨k + 1, by omega, by go_num, fun j hj hjk => by
          by_cases e : j = k
          · subst e; exact HN.out
          · exact HA.out j hj (by omega), bstep (Nat.le_refl _) HB.out hb1⟩
        case measure => simp [intOf]; omega
      · have HN := Lib.hid (find_at hlt HA.out (show (L[k].nm.toList == nm.toList) = true by rw [hcc.out]; exact hz))
        rw [hz] at CE
        obtain ⟨cn, cf, cm⟩ := c
        simp only at c0 c1 c2 CE
        clear hz
        go_wp2_with (first | (go_at_call 32; (with_reducible refine Calls.mono CE.out ?_); rintro e w1 ⟨rfl, hb1⟩))
        go_ret
        exact ⟨by rw [HN.out]; rfl, bstep (Nat.le_refl _) HB.out hb1⟩
    · obtain rfl : k = L.length := by omega
      have HN := Lib.hid (find_none (nm := nm) (fun j hj => HA.out j hj hj))
      clear hall hb
      go_wp2
      go_ret
      exact ⟨by rw [HN.out]; rfl, HB.out⟩

set_option maxHeartbeats 1000000 in
theorem find_any (p : Option Addr) (L : List Crp) (cap : Nat) (nm : ByteArray) (w : World) (h : Crops w p L) : Calls Tryz.prog 12 #[.slice p L.length cap, .string nm] w (IntGive (find L nm) w) := by
  have hb : Below w.heap.size w (w.alloc (.cells #[.string nm] 9)) := (Below.refl _ _).alloc (Nat.le_refl _) _
  have HX := Lib.hid (indexcrop_any p L cap w.heap.size nm (w.alloc (.cells #[.string nm] 9)) (h.below hb) (World.cell?_alloc_new w #[.string nm] 9 0) (by simp))
  have HB := Lib.hid hb
  clear hb h
  go_enter Tryz.func12, Tryz.ntmps12
  go_wp2_with (first | (go_at_call 31; (with_reducible refine Calls.mono HX.out ?_); rintro e w1 ⟨rfl, hb1⟩))
  go_ret
  exact ⟨rfl, HB.out.trans (hb1.mono HB.out.size)⟩

set_option maxRecDepth 100000 in
set_option maxHeartbeats 2000000 in
theorem reffind_any (p : Option Addr) (L : List Crp) (cap : Nat) (nm : ByteArray) (w : World) (h : Crops w p L) : Calls Tryz.prog 24 #[.slice p L.length cap, .string nm] w (IntGive (find L nm) w) := by
  have hn := h.len
  have H := Lib.hid h
  clear h
  go_enter Tryz.func24, Tryz.ntmps24
  go_wp2
  go_loopw [9] (fun i wr => ∃ k : Nat, k ≤ L.length ∧ i = .int .i64 k ∧ (∀ j (hj : j < L.length), j < k → (L[j].nm.toList == nm.toList) = false) ∧ Below w.heap.size w wr) (fun i _ => L.length - (intOf i).toNat)
  case atStart => exact ⟨0, Nat.zero_le _, rfl, fun j hj hk => absurd hk (Nat.not_lt_zero j), Below.refl _ _⟩
  case round =>
    obtain ⟨k, hk, rfl, hall, hb⟩ := hrel
    have HA := Lib.hid hall
    have HB := Lib.hid hb
    have hk0 : (0 : Int) ≤ (k : Int) := Int.natCast_nonneg _
    by_cases hlt : k < L.length
    · obtain ⟨b, off, c, rfl, hbl, hC, hcc⟩ := SC_at (H.out.below hb) hlt
      obtain ⟨c0, c1, c2⟩ := hC
      have hk1 : (k : Int) < (L.length : Int) := by omega
      clear hall hb
      cases hz : (c.nm.toList == nm.toList)
      · have HN := Lib.hid (show (L[k].nm.toList == nm.toList) = false by rw [hcc.out]; exact hz)
        obtain ⟨cn, cf, cm⟩ := c
        simp only at c0 c1 c2 hz
        go_wp2
        go_roundw
        case rel => exact ⟨k + 1, by omega, by go_num, fun j hj hjk => by
          by_cases e : j = k
          · subst e; exact HN.out
          · exact HA.out j hj (by omega), balloc (Nat.le_refl _) HB.out _⟩
        case measure => simp [intOf]; omega
      · have HN := Lib.hid (find_at hlt HA.out (show (L[k].nm.toList == nm.toList) = true by rw [hcc.out]; exact hz))
        obtain ⟨cn, cf, cm⟩ := c
        simp only at c0 c1 c2 hz
        go_wp2
        go_ret
        exact ⟨by rw [HN.out]; rfl, balloc (Nat.le_refl _) HB.out _⟩
    · obtain rfl : k = L.length := by omega
      have HN := Lib.hid (find_none (nm := nm) (fun j hj => HA.out j hj hj))
      clear hall hb
      go_wp2
      go_ret
      exact ⟨by rw [HN.out]; rfl, HB.out⟩

end Go.Proofs.YtcghhagnibabeaaGreatDoor

namespace Go.Proofs.YtcghhagnibabeaaGreatDoor
open Go.RowKit Cr

def mrkAt (L : List Crp) (i : Int) : Int := match L[i.toNat]? with | some c => c.mrk | none => 0
def famAt (L : List Crp) (i : Int) : Int := match L[i.toNat]? with | some c => c.fam | none => 0
def hasB (L : List Crp) (i m : Int) : Bool := if 0 ≤ i ∧ i < L.length ∧ m ≠ 0 then bits .and .i64 (mrkAt L i) m == m else false

theorem mrkAt_at {L : List Crp} {k : Nat} {c : Crp} (hk : k < L.length) (hc : L[k] = c) : mrkAt L (k : Int) = c.mrk := by
  unfold mrkAt; rw [Int.toNat_natCast, List.getElem?_eq_getElem hk, hc]
theorem famAt_at {L : List Crp} {k : Nat} {c : Crp} (hk : k < L.length) (hc : L[k] = c) : famAt L (k : Int) = c.fam := by
  unfold famAt; rw [Int.toNat_natCast, List.getElem?_eq_getElem hk, hc]

def HasGive (L : List Crp) (i m : Int) (w : World) (e : Ending) (w' : World) : Prop := e = .returned (.bool (hasB L i m)) ∧ w = w'

set_option maxHeartbeats 2000000 in
theorem has_both (p : Option Addr) (L : List Crp) (cap : Nat) (i m : Int) (w : World) (h : Crops w p L) :
    Calls Tryz.prog 13 #[.slice p L.length cap, .int .i64 i, .int .i64 m] w (HasGive L i m w) ∧ Calls Tryz.prog 27 #[.slice p L.length cap, .int .i64 i, .int .i64 m] w (HasGive L i m w) := by
  have hn := h.len
  rcases (show i < 0 ∨ (0 ≤ i ∧ (L.length : Int) ≤ i) ∨ (0 ≤ i ∧ i < L.length) by omega) with h1 | ⟨h1, h2⟩ | ⟨h1, h2⟩
  · have HF := Lib.hid (show hasB L i m = false by unfold hasB; rw [if_neg (by omega)])
    have g : ¬ (0 : Int) ≤ i := by omega
    clear h
    constructor
    · go_enter Tryz.func13, Tryz.ntmps13
      go_wp2
      go_ret
      exact ⟨by rw [HF.out]; rfl, rfl⟩
    · go_enter Tryz.func27, Tryz.ntmps27
      go_wp2
      go_ret
      exact ⟨by rw [HF.out]; rfl, rfl⟩
  · have HF := Lib.hid (show hasB L i m = false by unfold hasB; rw [if_neg (by omega)])
    have g : ¬ i < (L.length : Int) := by omega
    clear h
    constructor
    · go_enter Tryz.func13, Tryz.ntmps13
      go_wp2
      go_ret
      exact ⟨by rw [HF.out]; rfl, rfl⟩
    · go_enter Tryz.func27, Tryz.ntmps27
      go_wp2
      go_ret
      exact ⟨by rw [HF.out]; rfl, rfl⟩
  · obtain ⟨k, rfl⟩ := Int.eq_ofNat_of_zero_le h1
    by_cases hm : m = 0
    · have HF := Lib.hid (show hasB L (k : Int) m = false by unfold hasB; rw [if_neg (fun e => e.2.2 hm)])
      have g : (m != 0) = false := by rw [hm]; rfl
      clear h hm
      constructor
      · go_enter Tryz.func13, Tryz.ntmps13
        go_wp2
        go_ret
        exact ⟨by rw [HF.out]; rfl, rfl⟩
      · go_enter Tryz.func27, Tryz.ntmps27
        go_wp2
        go_ret
        exact ⟨by rw [HF.out]; rfl, rfl⟩
    · have hk : k < L.length := by omega
      obtain ⟨b, off, c, rfl, hbl, hC, hcc⟩ := SC_at h hk
      obtain ⟨c0, c1, c2⟩ := hC
      have HF := Lib.hid (show hasB L (k : Int) m = (bits .and .i64 c.mrk m == m) by unfold hasB; rw [if_pos ⟨h1, h2, hm⟩, mrkAt_at hk hcc.out])
      have hm2 : (m != 0) = true := by simpa using hm
      clear h hm
      constructor
      · go_enter Tryz.func13, Tryz.ntmps13
        go_wp2
        go_ret
        exact ⟨by rw [HF.out]; rfl, rfl⟩
      · go_enter Tryz.func27, Tryz.ntmps27
        go_wp2
        go_ret
        exact ⟨by rw [HF.out]; rfl, rfl⟩

def famE (L : List Crp) (i : Int) : Int := if chk L ≠ 0 then chk L else if i < 0 ∨ (L.length : Int) ≤ i then 13 else 0
def famV (L : List Crp) (i : Int) : Int := if famE L i = 0 then famAt L i else 0
def FamGive (L : List Crp) (i : Int) (w : World) (e : Ending) (w' : World) : Prop := e = .returned (.tuple #[.int .i64 (famV L i), .int .i64 (famE L i)]) ∧ Below w.heap.size w w'

theorem fam_bad {L : List Crp} {i : Int} {er : Int} (h : famE L i = er) (h0 : er ≠ 0) (w w' : World) (hb : Below w.heap.size w w') : FamGive L i w (.returned (.tuple #[.int .i64 0, .int .i64 er])) w' :=
  ⟨by unfold famV; rw [h, if_neg h0], hb⟩

set_option maxHeartbeats 4000000 in
theorem family_any (p : Option Addr) (L : List Crp) (cap : Nat) (i : Int) (w : World) (h : Crops w p L) (hz : ∀ c ∈ L, c.nm.size ≤ 9223372036854775807) : Calls Tryz.prog 11 #[.slice p L.length cap, .int .i64 i] w (FamGive L i w) := by
  have hn := h.len
  have CK := Lib.hid (check12_any p L cap w h hz)
  unfold ChkGive at CK
  obtain ⟨er, eer⟩ : ∃ x, chk L = x := ⟨_, rfl⟩
  rw [eer] at CK
  by_cases he : er = 0
  rotate_left
  · have HF := Lib.hid (fun (w' : World) (hb : Below w.heap.size w w') => fam_bad (L := L) (i := i) (er := er) (by unfold famE; rw [eer, if_pos he]) he w w' hb)
    have hne : (er != 0) = true := by simpa using he
    clear h hz he eer
    go_enter Tryz.func11, Tryz.ntmps11
    go_wp2_with (first | (go_at_call 22; (with_reducible refine Calls.mono CK.out ?_); rintro e w1 ⟨rfl, hb1⟩))
    go_ret2
    exact HF.out _ hb1
  subst he
  rcases (show i < 0 ∨ (0 ≤ i ∧ (L.length : Int) ≤ i) ∨ (0 ≤ i ∧ i < L.length) by omega) with h1 | ⟨h1, h2⟩ | ⟨h1, h2⟩
  · have HF := Lib.hid (fun (w' : World) (hb : Below w.heap.size w w') => fam_bad (L := L) (i := i) (er := 13) (by unfold famE; rw [if_neg (by rw [eer]; simp), if_pos (.inl h1)]) (by decide) w w' hb)
    clear h hz eer
    go_enter Tryz.func11, Tryz.ntmps11
    go_wp2_with (first | (go_at_call 22; (with_reducible refine Calls.mono CK.out ?_); rintro e w1 ⟨rfl, hb1⟩))
    go_ret2
    exact HF.out _ hb1
  · have HF := Lib.hid (fun (w' : World) (hb : Below w.heap.size w w') => fam_bad (L := L) (i := i) (er := 13) (by unfold famE; rw [if_neg (by rw [eer]; simp), if_pos (.inr h2)]) (by decide) w w' hb)
    have g : ¬ i < 0 := by omega
    clear h hz eer
    go_enter Tryz.func11, Tryz.ntmps11
    go_wp2_with (first | (go_at_call 22; (with_reducible refine Calls.mono CK.out ?_); rintro e w1 ⟨rfl, hb1⟩))
    go_ret2
    exact HF.out _ hb1
  · obtain ⟨k, rfl⟩ := Int.eq_ofNat_of_zero_le h1
    have hk : k < L.length := by omega
    obtain ⟨b, off, c, rfl, hbl, hC, hcc⟩ := SC_at h hk
    have hE : famE L (k : Int) = 0 := by unfold famE; rw [if_neg (by rw [eer]; simp), if_neg (by omega)]
    have HF := Lib.hid (fun (w' : World) (hb : Below w.heap.size w w') => show FamGive L (k : Int) w (.returned (.tuple #[.int .i64 c.fam, .int .i64 0])) w' from ⟨by unfold famV; rw [hE, if_pos rfl, famAt_at hk hcc.out], hb⟩)
    have C := Lib.hid hC
    clear h hz eer hE hC
    go_enter Tryz.func11, Tryz.ntmps11
    go_wp2_with (first | (go_at_call 22; (with_reducible refine Calls.mono CK.out ?_); rintro e w1 ⟨rfl, hb1⟩; obtain ⟨c0, c1, c2⟩ := C.out.below hb1 hbl))
    go_ret2
    exact HF.out _ hb1

set_option maxHeartbeats 4000000 in
theorem reffamily_any (p : Option Addr) (L : List Crp) (cap : Nat) (i : Int) (w : World) (h : Crops w p L) (hz : ∀ c ∈ L, c.nm.size ≤ 9223372036854775807) : Calls Tryz.prog 25 #[.slice p L.length cap, .int .i64 i] w (FamGive L i w) := by
  have hn := h.len
  have CK := Lib.hid (refcheck12_any p L cap w h hz)
  unfold ChkGive at CK
  obtain ⟨er, eer⟩ : ∃ x, chk L = x := ⟨_, rfl⟩
  rw [eer] at CK
  by_cases he : er = 0
  rotate_left
  · have HF := Lib.hid (fun (w' : World) (hb : Below w.heap.size w w') => fam_bad (L := L) (i := i) (er := er) (by unfold famE; rw [eer, if_pos he]) he w w' hb)
    have hne : (er != 0) = true := by simpa using he
    clear h hz he eer
    go_enter Tryz.func25, Tryz.ntmps25
    go_wp2_with (first | (go_at_call 23; (with_reducible refine Calls.mono CK.out ?_); rintro e w1 ⟨rfl, hb1⟩))
    go_ret2
    exact HF.out _ hb1
  subst he
  rcases (show i < 0 ∨ (0 ≤ i ∧ (L.length : Int) ≤ i) ∨ (0 ≤ i ∧ i < L.length) by omega) with h1 | ⟨h1, h2⟩ | ⟨h1, h2⟩
  · have HF := Lib.hid (fun (w' : World) (hb : Below w.heap.size w w') => fam_bad (L := L) (i := i) (er := 13) (by unfold famE; rw [if_neg (by rw [eer]; simp), if_pos (.inl h1)]) (by decide) w w' hb)
    clear h hz eer
    go_enter Tryz.func25, Tryz.ntmps25
    go_wp2_with (first | (go_at_call 23; (with_reducible refine Calls.mono CK.out ?_); rintro e w1 ⟨rfl, hb1⟩))
    go_ret2
    exact HF.out _ hb1
  · have HF := Lib.hid (fun (w' : World) (hb : Below w.heap.size w w') => fam_bad (L := L) (i := i) (er := 13) (by unfold famE; rw [if_neg (by rw [eer]; simp), if_pos (.inr h2)]) (by decide) w w' hb)
    have g : ¬ i < 0 := by omega
    clear h hz eer
    go_enter Tryz.func25, Tryz.ntmps25
    go_wp2_with (first | (go_at_call 23; (with_reducible refine Calls.mono CK.out ?_); rintro e w1 ⟨rfl, hb1⟩))
    go_ret2
    exact HF.out _ hb1
  · obtain ⟨k, rfl⟩ := Int.eq_ofNat_of_zero_le h1
    have hk : k < L.length := by omega
    obtain ⟨b, off, c, rfl, hbl, hC, hcc⟩ := SC_at h hk
    have hE : famE L (k : Int) = 0 := by unfold famE; rw [if_neg (by rw [eer]; simp), if_neg (by omega)]
    have HF := Lib.hid (fun (w' : World) (hb : Below w.heap.size w w') => show FamGive L (k : Int) w (.returned (.tuple #[.int .i64 c.fam, .int .i64 0])) w' from ⟨by unfold famV; rw [hE, if_pos rfl, famAt_at hk hcc.out], hb⟩)
    have C := Lib.hid hC
    clear h hz eer hE hC
    go_enter Tryz.func25, Tryz.ntmps25
    go_wp2_with (first | (go_at_call 23; (with_reducible refine Calls.mono CK.out ?_); rintro e w1 ⟨rfl, hb1⟩; obtain ⟨c0, c1, c2⟩ := C.out.below hb1 hbl))
    go_ret2
    exact HF.out _ hb1

end Go.Proofs.YtcghhagnibabeaaGreatDoor

namespace Go.Proofs.YtcghhagnibabeaaGreatDoor
open Go.RowKit Cr

theorem info_int12 : (Tryz.prog.info? 3).map (fun i => (i.zero, i.size, i.bytes)) = some (some (.int .i64 0), 1, 8) := by kernel_rfl

def kinE (L : List Crp) (f : Int) : Int := if chk L ≠ 0 then chk L else if f < 0 ∨ 40 < f then 2 else 0
/-- The crops of a family, up to index k. -/
def kinTo (L : List Crp) (f : Int) (k : Nat) : List Int := (List.range k).flatMap fun (i : Nat) => if famAt L (i : Int) = f then [(i : Int)] else []
def kinL (L : List Crp) (f : Int) : List Int := if kinE L f = 0 then kinTo L f L.length else []
def KinGive (L : List Crp) (f : Int) (w : World) (e : Ending) (w' : World) : Prop := ∃ q c, e = .returned (.tuple #[.slice q (kinL L f).length c, .int .i64 (kinE L f)]) ∧ Ints w' q (kinL L f) ∧ Below w.heap.size w w'

theorem kinTo_succ (L : List Crp) (f : Int) (k : Nat) : kinTo L f (k + 1) = kinTo L f k ++ if famAt L (k : Int) = f then [(k : Int)] else [] := by
  unfold kinTo
  rw [List.range_succ, List.flatMap_append]
  simp

theorem kinTo_len (L : List Crp) (f : Int) : ∀ k, (kinTo L f k).length ≤ k
  | 0 => by simp [kinTo]
  | k + 1 => by
    have ih := kinTo_len L f k
    rw [kinTo_succ, List.length_append]
    split <;> simp <;> omega

theorem kin_bad {L : List Crp} {f er : Int} (h : kinE L f = er) (h0 : er ≠ 0) (w w' : World) (hb : Below w.heap.size w w') : KinGive L f w (.returned (.tuple #[.slice none 0 0, .int .i64 er])) w' := by
  have e : kinL L f = [] := by unfold kinL; rw [h, if_neg h0]
  exact ⟨none, 0, by rw [e, h]; rfl, by rw [e]; exact Ints.nil _ _, hb⟩

set_option maxRecDepth 100000 in
set_option maxHeartbeats 8000000 in
theorem kin_any (p : Option Addr) (L : List Crp) (cap : Nat) (f : Int) (w : World) (h : Crops w p L) (hz : ∀ c ∈ L, c.nm.size ≤ 9223372036854775807) : Calls Tryz.prog 10 #[.slice p L.length cap, .int .i64 f] w (KinGive L f w) := by
  have hn := h.len
  have CK := Lib.hid (check12_any p L cap w h hz)
  unfold ChkGive at CK
  obtain ⟨er, eer⟩ : ∃ x, chk L = x := ⟨_, rfl⟩
  rw [eer] at CK
  by_cases he : er = 0
  rotate_left
  · have HF := Lib.hid (fun (w' : World) (hb : Below w.heap.size w w') => kin_bad (L := L) (f := f) (er := er) (by unfold kinE; rw [eer, if_pos he]) he w w' hb)
    have hne : (er != 0) = true := by simpa using he
    clear h hz he eer
    go_enter Tryz.func10, Tryz.ntmps10
    go_wp2_with (first | (go_at_call 22; (with_reducible refine Calls.mono CK.out ?_); rintro e w1 ⟨rfl, hb1⟩))
    go_ret2
    exact HF.out _ hb1
  subst he
  rcases (show f < 0 ∨ (0 ≤ f ∧ 40 < f) ∨ (0 ≤ f ∧ f ≤ 40) by omega) with h1 | ⟨h1, h2⟩ | ⟨h1, h2⟩
  · have HF := Lib.hid (fun (w' : World) (hb : Below w.heap.size w w') => kin_bad (L := L) (f := f) (er := 2) (by unfold kinE; rw [if_neg (by rw [eer]; simp), if_pos (.inl h1)]) (by decide) w w' hb)
    clear h hz eer
    go_enter Tryz.func10, Tryz.ntmps10
    go_wp2_with (first | (go_at_call 22; (with_reducible refine Calls.mono CK.out ?_); rintro e w1 ⟨rfl, hb1⟩))
    go_ret2
    exact HF.out _ hb1
  · have HF := Lib.hid (fun (w' : World) (hb : Below w.heap.size w w') => kin_bad (L := L) (f := f) (er := 2) (by unfold kinE; rw [if_neg (by rw [eer]; simp), if_pos (.inr h2)]) (by decide) w w' hb)
    clear h hz eer
    go_enter Tryz.func10, Tryz.ntmps10
    go_wp2_with (first | (go_at_call 22; (with_reducible refine Calls.mono CK.out ?_); rintro e w1 ⟨rfl, hb1⟩))
    go_ret2
    exact HF.out _ hb1
  · have HE := Lib.hid (show kinE L f = 0 by unfold kinE; rw [if_neg (by rw [eer]; simp), if_neg (by omega)])
    have HL4 := Lib.hid (show L.length ≤ 40 from ((chk_right L).1 eer).len)
    obtain ⟨i0, hi, hz0, hz1, hz2⟩ := info_parts info_int12
    have HI := Lib.hid (And.intro hi (And.intro hz0 (And.intro hz1 hz2)))
    have H := Lib.hid h
    clear h hz eer hi hz0 hz1 hz2
    go_enter Tryz.func10, Tryz.ntmps10
    go_wp2_with (first | (go_at_call 22; (with_reducible refine Calls.mono CK.out ?_); rintro e w1 ⟨rfl, hb1⟩))
    have HB1 := Lib.hid hb1
    clear hb1
    go_loopw [7, 23] (fun v i wr => ∃ k : Nat, k ≤ L.length ∧ i = .int .i64 k ∧ Own wr 3 w.heap.size v (kinTo L f k) ∧ Below w.heap.size w wr) (fun _ i _ => L.length - (intOf i).toNat)
    case atStart => exact ⟨0, Nat.zero_le _, rfl, Own.nil _ _ _, HB1.out⟩
    case round =>
      obtain ⟨wo, rfl⟩ : ∃ wo : World, wo = wr := ⟨_, rfl⟩
      obtain ⟨k, hk, rfl, hO, hb⟩ := hrel
      have hk0 : (0 : Int) ≤ (k : Int) := Int.natCast_nonneg _
      by_cases hlt : k < L.length
      · have hk1 : (k : Int) < (L.length : Int) := by omega
        obtain ⟨b, off, c, rfl, hbl, hC, hcc⟩ := SC_at (H.out.below hb) hlt
        obtain ⟨c0, c1, c2⟩ := hC
        have HS := Lib.hid (kinTo_succ L f k)
        have HA := Lib.hid (famAt_at hlt hcc.out)
        have hkl := kinTo_len L f k
        have hl40 := HL4.out
        obtain ⟨cn, cf, cm⟩ := c
        simp only at c0 c1 c2 HA
        have hsz := hb.size
        have HO := Lib.hid (hO.below ((Below.refl wo.heap.size wo).alloc (Nat.le_refl _) (.cells #[.string cn, .int .i64 cf, .int .i64 cm] 31)))
        have HB := Lib.hid (balloc (Nat.le_refl _) hb (.cells #[.string cn, .int .i64 cf, .int .i64 cm] 31))
        clear hO hb
        cases hf : (cf == f)
        · have HN := Lib.hid (show kinTo L f (k + 1) = kinTo L f k by rw [HS.out, HA.out, if_neg (by simpa using hf), List.append_nil])
          go_wp2
          go_roundw
          case rel => exact ⟨k + 1, by omega, by go_num, by rw [HN.out]; exact HO.out, HB.out⟩
          case measure => simp [intOf]; omega
        · have HN := Lib.hid (show kinTo L f (k + 1) = kinTo L f k ++ [(k : Int)] by rw [HS.out, HA.out, if_pos (by simpa using hf)])
          go_wp2_with (first | (at_builtin; (refine Own.append HI.out.1 HI.out.2.1 HI.out.2.2.1 HI.out.2.2.2 Tryz.underlying22 rfl (.tmp 32) (.tmp 34) rfl w.heap.size _ _ _ HO.out rfl (by simp [Act.eval]) (by simp; omega) (by omega) ?_); intro v1 w3 hown1 hb3))
          go_roundw
          case rel => exact ⟨k + 1, by omega, by go_num, by rw [HN.out]; exact hown1, HB.out.trans hb3⟩
          case measure => simp [intOf]; omega
      · obtain rfl : k = L.length := by omega
        obtain ⟨q, qc, rfl, hI⟩ := hO.ints
        have HF := Lib.hid (show KinGive L f w (.returned (.tuple #[.slice q (kinTo L f L.length).length qc, .int .i64 0])) wo from ⟨q, qc, by unfold kinL; rw [if_pos HE.out, HE.out], by unfold kinL; rw [if_pos HE.out]; exact hI, hb⟩)
        clear hI hb
        go_wp2
        go_ret2
        exact HF.out

set_option maxRecDepth 100000 in
set_option maxHeartbeats 8000000 in
theorem refkin_any (p : Option Addr) (L : List Crp) (cap : Nat) (f : Int) (w : World) (h : Crops w p L) (hz : ∀ c ∈ L, c.nm.size ≤ 9223372036854775807) : Calls Tryz.prog 26 #[.slice p L.length cap, .int .i64 f] w (KinGive L f w) := by
  have hn := h.len
  have CK := Lib.hid (refcheck12_any p L cap w h hz)
  unfold ChkGive at CK
  obtain ⟨er, eer⟩ : ∃ x, chk L = x := ⟨_, rfl⟩
  rw [eer] at CK
  by_cases he : er = 0
  rotate_left
  · have HF := Lib.hid (fun (w' : World) (hb : Below w.heap.size w w') => kin_bad (L := L) (f := f) (er := er) (by unfold kinE; rw [eer, if_pos he]) he w w' hb)
    have hne : (er != 0) = true := by simpa using he
    clear h hz he eer
    go_enter Tryz.func26, Tryz.ntmps26
    go_wp2_with (first | (go_at_call 23; (with_reducible refine Calls.mono CK.out ?_); rintro e w1 ⟨rfl, hb1⟩))
    go_ret2
    exact HF.out _ hb1
  subst he
  rcases (show f < 0 ∨ (0 ≤ f ∧ 40 < f) ∨ (0 ≤ f ∧ f ≤ 40) by omega) with h1 | ⟨h1, h2⟩ | ⟨h1, h2⟩
  · have HF := Lib.hid (fun (w' : World) (hb : Below w.heap.size w w') => kin_bad (L := L) (f := f) (er := 2) (by unfold kinE; rw [if_neg (by rw [eer]; simp), if_pos (.inl h1)]) (by decide) w w' hb)
    clear h hz eer
    go_enter Tryz.func26, Tryz.ntmps26
    go_wp2_with (first | (go_at_call 23; (with_reducible refine Calls.mono CK.out ?_); rintro e w1 ⟨rfl, hb1⟩))
    go_ret2
    exact HF.out _ hb1
  · have HF := Lib.hid (fun (w' : World) (hb : Below w.heap.size w w') => kin_bad (L := L) (f := f) (er := 2) (by unfold kinE; rw [if_neg (by rw [eer]; simp), if_pos (.inr h2)]) (by decide) w w' hb)
    clear h hz eer
    go_enter Tryz.func26, Tryz.ntmps26
    go_wp2_with (first | (go_at_call 23; (with_reducible refine Calls.mono CK.out ?_); rintro e w1 ⟨rfl, hb1⟩))
    go_ret2
    exact HF.out _ hb1
  · have HE := Lib.hid (show kinE L f = 0 by unfold kinE; rw [if_neg (by rw [eer]; simp), if_neg (by omega)])
    have HL4 := Lib.hid (show L.length ≤ 40 from ((chk_right L).1 eer).len)
    obtain ⟨i0, hi, hz0, hz1, hz2⟩ := info_parts info_int12
    have HI := Lib.hid (And.intro hi (And.intro hz0 (And.intro hz1 hz2)))
    have H := Lib.hid h
    clear h hz eer hi hz0 hz1 hz2
    go_enter Tryz.func26, Tryz.ntmps26
    go_wp2_with (first | (go_at_call 23; (with_reducible refine Calls.mono CK.out ?_); rintro e w1 ⟨rfl, hb1⟩))
    have HB1 := Lib.hid hb1
    clear hb1
    go_loopw [7, 23] (fun v i wr => ∃ k : Nat, k ≤ L.length ∧ i = .int .i64 k ∧ Own wr 3 w.heap.size v (kinTo L f k) ∧ Below w.heap.size w wr) (fun _ i _ => L.length - (intOf i).toNat)
    case atStart => exact ⟨0, Nat.zero_le _, rfl, Own.nil _ _ _, HB1.out⟩
    case round =>
      obtain ⟨wo, rfl⟩ : ∃ wo : World, wo = wr := ⟨_, rfl⟩
      obtain ⟨k, hk, rfl, hO, hb⟩ := hrel
      have hk0 : (0 : Int) ≤ (k : Int) := Int.natCast_nonneg _
      by_cases hlt : k < L.length
      · have hk1 : (k : Int) < (L.length : Int) := by omega
        obtain ⟨b, off, c, rfl, hbl, hC, hcc⟩ := SC_at (H.out.below hb) hlt
        obtain ⟨c0, c1, c2⟩ := hC
        have HS := Lib.hid (kinTo_succ L f k)
        have HA := Lib.hid (famAt_at hlt hcc.out)
        have hkl := kinTo_len L f k
        have hl40 := HL4.out
        obtain ⟨cn, cf, cm⟩ := c
        simp only at c0 c1 c2 HA
        have hsz := hb.size
        have HO := Lib.hid (hO.below ((Below.refl wo.heap.size wo).alloc (Nat.le_refl _) (.cells #[.string cn, .int .i64 cf, .int .i64 cm] 31)))
        have HB := Lib.hid (balloc (Nat.le_refl _) hb (.cells #[.string cn, .int .i64 cf, .int .i64 cm] 31))
        clear hO hb
        cases hf : (cf == f)
        · have HN := Lib.hid (show kinTo L f (k + 1) = kinTo L f k by rw [HS.out, HA.out, if_neg (by simpa using hf), List.append_nil])
          go_wp2
          go_roundw
          case rel => exact ⟨k + 1, by omega, by go_num, by rw [HN.out]; exact HO.out, HB.out⟩
          case measure => simp [intOf]; omega
        · have HN := Lib.hid (show kinTo L f (k + 1) = kinTo L f k ++ [(k : Int)] by rw [HS.out, HA.out, if_pos (by simpa using hf)])
          go_wp2_with (first | (at_builtin; (refine Own.append HI.out.1 HI.out.2.1 HI.out.2.2.1 HI.out.2.2.2 Tryz.underlying22 rfl (.tmp 32) (.tmp 34) rfl w.heap.size _ _ _ HO.out rfl (by simp [Act.eval]) (by simp; omega) (by omega) ?_); intro v1 w3 hown1 hb3))
          go_roundw
          case rel => exact ⟨k + 1, by omega, by go_num, by rw [HN.out]; exact hown1, HB.out.trans hb3⟩
          case measure => simp [intOf]; omega
      · obtain rfl : k = L.length := by omega
        obtain ⟨q, qc, rfl, hI⟩ := hO.ints
        have HF := Lib.hid (show KinGive L f w (.returned (.tuple #[.slice q (kinTo L f L.length).length qc, .int .i64 0])) wo from ⟨q, qc, by unfold kinL; rw [if_pos HE.out, HE.out], by unfold kinL; rw [if_pos HE.out]; exact hI, hb⟩)
        clear hI hb
        go_wp2
        go_ret2
        exact HF.out

end Go.Proofs.YtcghhagnibabeaaGreatDoor
