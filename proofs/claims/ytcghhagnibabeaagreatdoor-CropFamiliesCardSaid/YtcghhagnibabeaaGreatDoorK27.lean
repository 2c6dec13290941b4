/-
  THE WALK over crop.Kin once more: its list lies in memory of its own.
-/
import Derived.Test.YtcghhagnibabeaaGreatDoorMC
namespace Go.Proofs.YtcghhagnibabeaaGreatDoor
open Go.RowKit Cr

def KinNew (L : List Crp) (f : Int) (w : World) (e : Ending) (w' : World) : Prop := ∃ q c, e = .returned (.tuple #[.slice q (kinL L f).length c, .int .i64 (kinE L f)]) ∧ Ints w' q (kinL L f) ∧ (∀ a, q = some a → w.heap.size ≤ a.block) ∧ Below w.heap.size w w'

theorem own_ge {w : World} {T : TypeId} {B n c : Nat} {q : Option Addr} {L : List Int} (h : Own w T B (.slice q n c) L) : ∀ a, q = some a → B ≤ a.block := fun a e => (World.ownsRow.lt h a.block (by subst e; rfl)).1

theorem kinNew_bad {L : List Crp} {f er : Int} (h : kinE L f = er) (h0 : er ≠ 0) (w w' : World) (hb : Below w.heap.size w w') : KinNew L f w (.returned (.tuple #[.slice none 0 0, .int .i64 er])) w' := by
  have e : kinL L f = [] := by unfold kinL; rw [h, if_neg h0]
  exact ⟨none, 0, by rw [e, h]; rfl, by rw [e]; exact Ints.nil _ _, (fun a e => by cases e), hb⟩

set_option maxRecDepth 100000 in
set_option maxHeartbeats 8000000 in
theorem kinNew_any (p : Option Addr) (L : List Crp) (cap : Nat) (f : Int) (w : World) (h : Crops w p L) (hz : ∀ c ∈ L, c.nm.size ≤ 9223372036854775807) : Calls Tryz.prog 10 #[.slice p L.length cap, .int .i64 f] w (KinNew L f w) := by
  have hn := h.len
  have CK := Lib.hid (check12_any p L cap w h hz)
  unfold ChkGive at CK
  obtain ⟨er, eer⟩ : ∃ x, chk L = x := ⟨_, rfl⟩
  rw [eer] at CK
  by_cases he : er = 0
  rotate_left
  · have HF := Lib.hid (fun (w' : World) (hb : Below w.heap.size w w') => kinNew_bad (L := L) (f := f) (er := er) (by unfold kinE; rw [eer, if_pos he]) he w w' hb)
    have hne : (er != 0) = true := by simpa using he
    clear h hz he eer
    go_enter Tryz.func10, Tryz.ntmps10
    go_wp2_with (first | (go_at_call 22; (with_reducible refine Calls.mono CK.out ?_); rintro e w1 ⟨rfl, hb1⟩))
    go_ret2
    exact HF.out _ hb1
  subst he
  rcases (show f < 0 ∨ (0 ≤ f ∧ 40 < f) ∨ (0 ≤ f ∧ f ≤ 40) by omega) with h1 | ⟨h1, h2⟩ | ⟨h1, h2⟩
  · have HF := Lib.hid (fun (w' : World) (hb : Below w.heap.size w w') => kinNew_bad (L := L) (f := f) (er := 2) (by unfold kinE; rw [if_neg (by rw [eer]; simp), if_pos (.inl h1)]) (by decide) w w' hb)
    clear h hz eer
    go_enter Tryz.func10, Tryz.ntmps10
    go_wp2_with (first | (go_at_call 22; (with_reducible refine Calls.mono CK.out ?_); rintro e w1 ⟨rfl, hb1⟩))
    go_ret2
    exact HF.out _ hb1
  · have HF := Lib.hid (fun (w' : World) (hb : Below w.heap.size w w') => kinNew_bad (L := L) (f := f) (er := 2) (by unfold kinE; rw [if_neg (by rw [eer]; simp), if_pos (.inr h2)]) (by decide) w w' hb)
    clear h hz eer
    go_enter Tryz.func10, Tryz.ntmps10
    go_wp2_with (first | (go_at_call 22; (with_reducible refine Calls.mono CK.out ?_); rintro e w1 ⟨rfl, hb1⟩))
    go_ret2
    exact HF.out _ hb1
  · have HE := Lib.hid (show kinE L f = 0 by unfold kinE; rw [if_neg (by rw [eer]; simp), if_neg (by omega)])
    have HL4 := Lib.hid (show L.length ≤ 40 from ((chk_right L).1 eer).len)
    obtain ⟨i0, hi, hz0, hz1, hz2⟩ := info_parts info_int12
    have HI := Lib.hid (And.intro hi (And.intro hz0 (And.intro hz1 hz2)))
    have H := Lib.hid h
    clear h hz eer hi hz0 hz1 hz2
    go_enter Tryz.func10, Tryz.ntmps10
    go_wp2_with (first | (go_at_call 22; (with_reducible refine Calls.mono CK.out ?_); rintro e w1 ⟨rfl, hb1⟩))
    have HB1 := Lib.hid hb1
    clear hb1
    go_loopw [7, 23] (fun v i wr => ∃ k : Nat, k ≤ L.length ∧ i = .int .i64 k ∧ Own wr 3 w.heap.size v (kinTo L f k) ∧ Below w.heap.size w wr) (fun _ i _ => L.length - (intOf i).toNat)
    case atStart => exact ⟨0, Nat.zero_le _, rfl, Own.nil _ _ _, HB1.out⟩
    case round =>
      obtain ⟨wo, rfl⟩ : ∃ wo : World, wo = wr := ⟨_, rfl⟩
      obtain ⟨k, hk, rfl, hO, hb⟩ := hrel
      have hk0 : (0 : Int) ≤ (k : Int) := Int.natCast_nonneg _
      by_cases hlt : k < L.length
      · have hk1 : (k : Int) < (L.length : Int) := by omega
        obtain ⟨b, off, c, rfl, hbl, hC, hcc⟩ := SC_at (H.out.below hb) hlt
        obtain ⟨c0, c1, c2⟩ := hC
        have HS := Lib.hid (kinTo_succ L f k)
        have HA := Lib.hid (famAt_at hlt hcc.out)
        have hkl := kinTo_len L f k
        have hl40 := HL4.out
        obtain ⟨cn, cf, cm⟩ := c
        simp only at c0 c1 c2 HA
        have hsz := hb.size
        have HO := Lib.hid (hO.below ((Below.refl wo.heap.size wo).alloc (Nat.le_refl _) (.cells #[.string cn, .int .i64 cf, .int .i64 cm] 31)))
        have HB := Lib.hid (balloc (Nat.le_refl _) hb (.cells #[.string cn, .int .i64 cf, .int .i64 cm] 31))
        clear hO hb
        cases hf : (cf == f)
        · have HN := Lib.hid (show kinTo L f (k + 1) = kinTo L f k by rw [HS.out, HA.out, if_neg (by simpa using hf), List.append_nil])
          go_wp2
          go_roundw
          case rel => exact ⟨k + 1, by omega, by go_num, by rw [HN.out]; exact HO.out, HB.out⟩
          case measure => simp [intOf]; omega
        · have HN := Lib.hid (show kinTo L f (k + 1) = kinTo L f k ++ [(k : Int)] by rw [HS.out, HA.out, if_pos (by simpa using hf)])
          go_wp2_with (first | (at_builtin; (refine Own.append HI.out.1 HI.out.2.1 HI.out.2.2.1 HI.out.2.2.2 Tryz.underlying22 rfl (.tmp 32) (.tmp 34) rfl w.heap.size _ _ _ HO.out rfl (by simp [Act.eval]) (by simp; omega) (by omega) ?_); intro v1 w3 hown1 hb3))
          go_roundw
          case rel => exact ⟨k + 1, by omega, by go_num, by rw [HN.out]; exact hown1, HB.out.trans hb3⟩
          case measure => simp [intOf]; omega
      · obtain rfl : k = L.length := by omega
        obtain ⟨q, qc, rfl, hI⟩ := hO.ints
        have hge := own_ge hO
        have HF := Lib.hid (show KinNew L f w (.returned (.tuple #[.slice q (kinTo L f L.length).length qc, .int .i64 0])) wo from ⟨q, qc, by unfold kinL; rw [if_pos HE.out, HE.out], by unfold kinL; rw [if_pos HE.out]; exact hI, hge, hb⟩)
        clear hI hb hge
        go_wp2
        go_ret2
        exact HF.out

end Go.Proofs.YtcghhagnibabeaaGreatDoor
