/-
  THE WALK over one scheme, the reference's.
-/
import Derived.Test.YtflcdkibjakciaaGreatDoorM15
namespace Go.Proofs.YtflcdkibjakciaaGreatDoor
open Go.RowKit Te Sc

set_option maxRecDepth 100000 in
set_option maxHeartbeats 3000000 in
theorem refone_any {Q : Nat → Prop} (d : Nat) (r : RSx) (s : Sch) (w : World) (h : SV Q w d r s) (hz : r.nm.size ≤ 9223372036854775807) (hc : count s.cond ≤ 1099511627776) :
    Calls Tryz.prog 48 #[.agg #[.int .i64 r.num, .string r.nm, .int .i64 r.t.op, .int .i64 r.t.num, .int .i64 r.t.more, .slice r.t.p r.t.n r.t.c, .slice r.bp r.bn r.bc, .int .i64 r.least, .int .i64 r.ex, .bool r.needs]] w (IntG (one17 s) w) := by
  have hA : Below w.heap.size w (w.alloc (.cells #[.int .i64 r.num, .string r.nm, .int .i64 r.t.op, .int .i64 r.t.num, .int .i64 r.t.more, .slice r.t.p r.t.n r.t.c, .slice r.bp r.bn r.bc, .int .i64 r.least, .int .i64 r.ex, .bool r.needs] 32)) := (Below.refl _ _).alloc (Nat.le_refl _) _
  have NM := Lib.hid (show ∀ W, Calls Tryz.prog 88 #[.string r.nm] W (fun e w' => e = .returned (.bool (Wo.nameB s.nm.data.toList)) ∧ W = w') from fun W => h.nm ▸ refname_any r.nm W hz)
  have CK := Lib.hid (refcheck16_any d r.t s.cond _ (h.below hA).t hc)
  have BK := Lib.hid (fun (W : World) (hW : Below w.heap.size w W) => show Calls Tryz.prog 90 #[.slice r.bp r.bn r.bc] W (BoolG (brB s.br) W) from refbrackets_any r.bp s.br r.bn r.bc W h.bn (h.below hW).br)
  obtain ⟨v, ev⟩ : ∃ v, one17 s = v := ⟨_, rfl⟩
  have OC := one_cases (show oneV r.num r.least r.ex (Wo.nameB s.nm.data.toList) (chkT s.cond) (brB s.br) (bitB r.ex r.num) = v from by rw [← ev, h.num, h.least, h.ex]; rfl)
  rw [ev]
  obtain ⟨nb, enb⟩ : ∃ x, Wo.nameB s.nm.data.toList = x := ⟨_, rfl⟩
  obtain ⟨ck, eck⟩ : ∃ x, chkT s.cond = x := ⟨_, rfl⟩
  obtain ⟨bb, ebb⟩ : ∃ x, brB s.br = x := ⟨_, rfl⟩
  rw [enb] at NM OC
  rw [eck] at CK OC
  rw [ebb] at BK OC
  clear enb eck ebb h ev hz hc
  obtain ⟨num, nm, ⟨o, tn, tm, tp, tl, tc⟩, bp, bn, bc, least, ex, needs⟩ := r
  have HA := Lib.hid hA
  clear hA
  have HA0 := Lib.hid (show w.heap.size < (w.alloc (.cells #[.int .i64 num, .string nm, .int .i64 o, .int .i64 tn, .int .i64 tm, .slice tp tl tc, .slice bp bn bc, .int .i64 least, .int .i64 ex, .bool needs] 32)).heap.size by simp)
  obtain ⟨bit, ebit⟩ : ∃ x, bitB ex num = x := ⟨_, rfl⟩
  have EB : (bits BinOp.and IntKind.i64 (ex / 2 ^ num.toNat) 1 == 1) = bit := by rw [bit_one, ebit]
  simp only [ebit] at OC
  clear ebit
  obtain ⟨O1, O2, O3, O4, O5⟩ := OC
  replace O1 := Lib.hid O1
  replace O2 := Lib.hid O2
  replace O3 := Lib.hid O3
  replace O4 := Lib.hid O4
  replace O5 := Lib.hid O5
  by_cases g : num < 0 ∨ 15 < num ∨ least < 0 ∨ 268435456 < least
  · have HV := Lib.hid (O1.out g)
    have G := Lib.hid g
    clear g
    by_cases g1 : num < 0
    · go_enter Tryz.func48, Tryz.ntmps48
      go_wp2_with (fail)
      go_ret
      exact ⟨ret_int HV.out.symm, HA.out⟩
    by_cases g2 : 15 < num
    · go_enter Tryz.func48, Tryz.ntmps48
      go_wp2_with (fail)
      go_ret
      exact ⟨ret_int HV.out.symm, HA.out⟩
    by_cases g3 : least < 0
    · go_enter Tryz.func48, Tryz.ntmps48
      go_wp2_with (fail)
      go_ret
      exact ⟨ret_int HV.out.symm, HA.out⟩
    have g4 : 268435456 < least := by have := G.out; omega
    · go_enter Tryz.func48, Tryz.ntmps48
      go_wp2_with (fail)
      go_ret
      exact ⟨ret_int HV.out.symm, HA.out⟩
  · have hn0 : 0 ≤ num := by omega
    have hn1 : num ≤ 15 := by omega
    have hl0 : 0 ≤ least := by omega
    have hl1 : least ≤ 268435456 := by omega
    have G := Lib.hid g
    clear g
    cases nb
    · have HV := Lib.hid (O2.out G.out rfl)
      go_enter Tryz.func48, Tryz.ntmps48
      go_wp2_with (first | (go_at_call 88; (with_reducible refine Calls.mono (NM.out _) ?_); rintro e w1 ⟨rfl, rfl⟩) | (go_at_call 89; (with_reducible refine Calls.mono CK.out ?_); rintro e w2 ⟨rfl, hb2⟩; have HS2 := Lib.hid (show w.heap.size < w2.heap.size from Nat.lt_of_lt_of_le HA0.out hb2.size); have BK1 := Lib.hid (BK.out _ (bstep (Nat.le_refl _) HA.out hb2)); have HB2 := Lib.hid (bstep (Nat.le_refl _) HA.out hb2); have hk0 := (hb2.cell (p := ⟨w.heap.size, 0, none⟩) (by simp)).trans (World.cell?_alloc_new _ _ _ _); have hk1 := (hb2.cell (p := ⟨w.heap.size, 1, none⟩) (by simp)).trans (World.cell?_alloc_new _ _ _ _); have hk2 := (hb2.cell (p := ⟨w.heap.size, 2, none⟩) (by simp)).trans (World.cell?_alloc_new _ _ _ _); have hk3 := (hb2.cell (p := ⟨w.heap.size, 3, none⟩) (by simp)).trans (World.cell?_alloc_new _ _ _ _); have hk4 := (hb2.cell (p := ⟨w.heap.size, 4, none⟩) (by simp)).trans (World.cell?_alloc_new _ _ _ _); have hk5 := (hb2.cell (p := ⟨w.heap.size, 5, none⟩) (by simp)).trans (World.cell?_alloc_new _ _ _ _); have hk6 := (hb2.cell (p := ⟨w.heap.size, 6, none⟩) (by simp)).trans (World.cell?_alloc_new _ _ _ _); have hk7 := (hb2.cell (p := ⟨w.heap.size, 7, none⟩) (by simp)).trans (World.cell?_alloc_new _ _ _ _); have hk8 := (hb2.cell (p := ⟨w.heap.size, 8, none⟩) (by simp)).trans (World.cell?_alloc_new _ _ _ _); have hk9 := (hb2.cell (p := ⟨w.heap.size, 9, none⟩) (by simp)).trans (World.cell?_alloc_new _ _ _ _); clear hb2) | (go_at_call 90; (with_reducible refine Calls.mono BK1.out ?_); rintro e w3 ⟨rfl, hb3⟩; have hj0 := (hb3.cell (p := ⟨w.heap.size, 0, none⟩) (by have := HS2.out; omega)).trans hk0; have hj8 := (hb3.cell (p := ⟨w.heap.size, 8, none⟩) (by have := HS2.out; omega)).trans hk8; have HB3 := Lib.hid (bstep (Nat.le_refl _) HB2.out hb3); clear hb3))
      go_ret
      exact ⟨ret_int HV.out.symm, HA.out⟩
    by_cases c0 : ck = 0
    · have CZ : (ck == 0) = true := by rw [c0]; rfl
      subst c0
      cases bb
      · have HV := Lib.hid (O4.out G.out rfl rfl (.inl rfl))
        go_enter Tryz.func48, Tryz.ntmps48
        go_wp2_with (first | (go_at_call 88; (with_reducible refine Calls.mono (NM.out _) ?_); rintro e w1 ⟨rfl, rfl⟩) | (go_at_call 89; (with_reducible refine Calls.mono CK.out ?_); rintro e w2 ⟨rfl, hb2⟩; have HS2 := Lib.hid (show w.heap.size < w2.heap.size from Nat.lt_of_lt_of_le HA0.out hb2.size); have BK1 := Lib.hid (BK.out _ (bstep (Nat.le_refl _) HA.out hb2)); have HB2 := Lib.hid (bstep (Nat.le_refl _) HA.out hb2); have hk0 := (hb2.cell (p := ⟨w.heap.size, 0, none⟩) (by simp)).trans (World.cell?_alloc_new _ _ _ _); have hk1 := (hb2.cell (p := ⟨w.heap.size, 1, none⟩) (by simp)).trans (World.cell?_alloc_new _ _ _ _); have hk2 := (hb2.cell (p := ⟨w.heap.size, 2, none⟩) (by simp)).trans (World.cell?_alloc_new _ _ _ _); have hk3 := (hb2.cell (p := ⟨w.heap.size, 3, none⟩) (by simp)).trans (World.cell?_alloc_new _ _ _ _); have hk4 := (hb2.cell (p := ⟨w.heap.size, 4, none⟩) (by simp)).trans (World.cell?_alloc_new _ _ _ _); have hk5 := (hb2.cell (p := ⟨w.heap.size, 5, none⟩) (by simp)).trans (World.cell?_alloc_new _ _ _ _); have hk6 := (hb2.cell (p := ⟨w.heap.size, 6, none⟩) (by simp)).trans (World.cell?_alloc_new _ _ _ _); have hk7 := (hb2.cell (p := ⟨w.heap.size, 7, none⟩) (by simp)).trans (World.cell?_alloc_new _ _ _ _); have hk8 := (hb2.cell (p := ⟨w.heap.size, 8, none⟩) (by simp)).trans (World.cell?_alloc_new _ _ _ _); have hk9 := (hb2.cell (p := ⟨w.heap.size, 9, none⟩) (by simp)).trans (World.cell?_alloc_new _ _ _ _); clear hb2) | (go_at_call 90; (with_reducible refine Calls.mono BK1.out ?_); rintro e w3 ⟨rfl, hb3⟩; have hj0 := (hb3.cell (p := ⟨w.heap.size, 0, none⟩) (by have := HS2.out; omega)).trans hk0; have hj8 := (hb3.cell (p := ⟨w.heap.size, 8, none⟩) (by have := HS2.out; omega)).trans hk8; have HB3 := Lib.hid (bstep (Nat.le_refl _) HB2.out hb3); clear hb3))
        go_ret
        exact ⟨ret_int HV.out.symm, HB3.out⟩
      by_cases e1 : ex < 0
      · have HV := Lib.hid (O4.out G.out rfl rfl (.inr (.inl e1)))
        go_enter Tryz.func48, Tryz.ntmps48
        go_wp2_with (first | (go_at_call 88; (with_reducible refine Calls.mono (NM.out _) ?_); rintro e w1 ⟨rfl, rfl⟩) | (go_at_call 89; (with_reducible refine Calls.mono CK.out ?_); rintro e w2 ⟨rfl, hb2⟩; have HS2 := Lib.hid (show w.heap.size < w2.heap.size from Nat.lt_of_lt_of_le HA0.out hb2.size); have BK1 := Lib.hid (BK.out _ (bstep (Nat.le_refl _) HA.out hb2)); have HB2 := Lib.hid (bstep (Nat.le_refl _) HA.out hb2); have hk0 := (hb2.cell (p := ⟨w.heap.size, 0, none⟩) (by simp)).trans (World.cell?_alloc_new _ _ _ _); have hk1 := (hb2.cell (p := ⟨w.heap.size, 1, none⟩) (by simp)).trans (World.cell?_alloc_new _ _ _ _); have hk2 := (hb2.cell (p := ⟨w.heap.size, 2, none⟩) (by simp)).trans (World.cell?_alloc_new _ _ _ _); have hk3 := (hb2.cell (p := ⟨w.heap.size, 3, none⟩) (by simp)).trans (World.cell?_alloc_new _ _ _ _); have hk4 := (hb2.cell (p := ⟨w.heap.size, 4, none⟩) (by simp)).trans (World.cell?_alloc_new _ _ _ _); have hk5 := (hb2.cell (p := ⟨w.heap.size, 5, none⟩) (by simp)).trans (World.cell?_alloc_new _ _ _ _); have hk6 := (hb2.cell (p := ⟨w.heap.size, 6, none⟩) (by simp)).trans (World.cell?_alloc_new _ _ _ _); have hk7 := (hb2.cell (p := ⟨w.heap.size, 7, none⟩) (by simp)).trans (World.cell?_alloc_new _ _ _ _); have hk8 := (hb2.cell (p := ⟨w.heap.size, 8, none⟩) (by simp)).trans (World.cell?_alloc_new _ _ _ _); have hk9 := (hb2.cell (p := ⟨w.heap.size, 9, none⟩) (by simp)).trans (World.cell?_alloc_new _ _ _ _); clear hb2) | (go_at_call 90; (with_reducible refine Calls.mono BK1.out ?_); rintro e w3 ⟨rfl, hb3⟩; have hj0 := (hb3.cell (p := ⟨w.heap.size, 0, none⟩) (by have := HS2.out; omega)).trans hk0; have hj8 := (hb3.cell (p := ⟨w.heap.size, 8, none⟩) (by have := HS2.out; omega)).trans hk8; have HB3 := Lib.hid (bstep (Nat.le_refl _) HB2.out hb3); clear hb3))
        go_ret
        exact ⟨ret_int HV.out.symm, HB3.out⟩
      by_cases e2 : 65536 ≤ ex
      · have HV := Lib.hid (O4.out G.out rfl rfl (.inr (.inr (.inl e2))))
        go_enter Tryz.func48, Tryz.ntmps48
        go_wp2_with (first | (go_at_call 88; (with_reducible refine Calls.mono (NM.out _) ?_); rintro e w1 ⟨rfl, rfl⟩) | (go_at_call 89; (with_reducible refine Calls.mono CK.out ?_); rintro e w2 ⟨rfl, hb2⟩; have HS2 := Lib.hid (show w.heap.size < w2.heap.size from Nat.lt_of_lt_of_le HA0.out hb2.size); have BK1 := Lib.hid (BK.out _ (bstep (Nat.le_refl _) HA.out hb2)); have HB2 := Lib.hid (bstep (Nat.le_refl _) HA.out hb2); have hk0 := (hb2.cell (p := ⟨w.heap.size, 0, none⟩) (by simp)).trans (World.cell?_alloc_new _ _ _ _); have hk1 := (hb2.cell (p := ⟨w.heap.size, 1, none⟩) (by simp)).trans (World.cell?_alloc_new _ _ _ _); have hk2 := (hb2.cell (p := ⟨w.heap.size, 2, none⟩) (by simp)).trans (World.cell?_alloc_new _ _ _ _); have hk3 := (hb2.cell (p := ⟨w.heap.size, 3, none⟩) (by simp)).trans (World.cell?_alloc_new _ _ _ _); have hk4 := (hb2.cell (p := ⟨w.heap.size, 4, none⟩) (by simp)).trans (World.cell?_alloc_new _ _ _ _); have hk5 := (hb2.cell (p := ⟨w.heap.size, 5, none⟩) (by simp)).trans (World.cell?_alloc_new _ _ _ _); have hk6 := (hb2.cell (p := ⟨w.heap.size, 6, none⟩) (by simp)).trans (World.cell?_alloc_new _ _ _ _); have hk7 := (hb2.cell (p := ⟨w.heap.size, 7, none⟩) (by simp)).trans (World.cell?_alloc_new _ _ _ _); have hk8 := (hb2.cell (p := ⟨w.heap.size, 8, none⟩) (by simp)).trans (World.cell?_alloc_new _ _ _ _); have hk9 := (hb2.cell (p := ⟨w.heap.size, 9, none⟩) (by simp)).trans (World.cell?_alloc_new _ _ _ _); clear hb2) | (go_at_call 90; (with_reducible refine Calls.mono BK1.out ?_); rintro e w3 ⟨rfl, hb3⟩; have hj0 := (hb3.cell (p := ⟨w.heap.size, 0, none⟩) (by have := HS2.out; omega)).trans hk0; have hj8 := (hb3.cell (p := ⟨w.heap.size, 8, none⟩) (by have := HS2.out; omega)).trans hk8; have HB3 := Lib.hid (bstep (Nat.le_refl _) HB2.out hb3); clear hb3))
        go_ret
        exact ⟨ret_int HV.out.symm, HB3.out⟩
      cases bit
      · have HV := Lib.hid (O5.out G.out rfl rfl (by simp; omega))
        go_enter Tryz.func48, Tryz.ntmps48
        go_wp2_with (first | (go_at_call 88; (with_reducible refine Calls.mono (NM.out _) ?_); rintro e w1 ⟨rfl, rfl⟩) | (go_at_call 89; (with_reducible refine Calls.mono CK.out ?_); rintro e w2 ⟨rfl, hb2⟩; have HS2 := Lib.hid (show w.heap.size < w2.heap.size from Nat.lt_of_lt_of_le HA0.out hb2.size); have BK1 := Lib.hid (BK.out _ (bstep (Nat.le_refl _) HA.out hb2)); have HB2 := Lib.hid (bstep (Nat.le_refl _) HA.out hb2); have hk0 := (hb2.cell (p := ⟨w.heap.size, 0, none⟩) (by simp)).trans (World.cell?_alloc_new _ _ _ _); have hk1 := (hb2.cell (p := ⟨w.heap.size, 1, none⟩) (by simp)).trans (World.cell?_alloc_new _ _ _ _); have hk2 := (hb2.cell (p := ⟨w.heap.size, 2, none⟩) (by simp)).trans (World.cell?_alloc_new _ _ _ _); have hk3 := (hb2.cell (p := ⟨w.heap.size, 3, none⟩) (by simp)).trans (World.cell?_alloc_new _ _ _ _); have hk4 := (hb2.cell (p := ⟨w.heap.size, 4, none⟩) (by simp)).trans (World.cell?_alloc_new _ _ _ _); have hk5 := (hb2.cell (p := ⟨w.heap.size, 5, none⟩) (by simp)).trans (World.cell?_alloc_new _ _ _ _); have hk6 := (hb2.cell (p := ⟨w.heap.size, 6, none⟩) (by simp)).trans (World.cell?_alloc_new _ _ _ _); have hk7 := (hb2.cell (p := ⟨w.heap.size, 7, none⟩) (by simp)).trans (World.cell?_alloc_new _ _ _ _); have hk8 := (hb2.cell (p := ⟨w.heap.size, 8, none⟩) (by simp)).trans (World.cell?_alloc_new _ _ _ _); have hk9 := (hb2.cell (p := ⟨w.heap.size, 9, none⟩) (by simp)).trans (World.cell?_alloc_new _ _ _ _); clear hb2) | (go_at_call 90; (with_reducible refine Calls.mono BK1.out ?_); rintro e w3 ⟨rfl, hb3⟩; have hj0 := (hb3.cell (p := ⟨w.heap.size, 0, none⟩) (by have := HS2.out; omega)).trans hk0; have hj8 := (hb3.cell (p := ⟨w.heap.size, 8, none⟩) (by have := HS2.out; omega)).trans hk8; have HB3 := Lib.hid (bstep (Nat.le_refl _) HB2.out hb3); clear hb3))
        go_ret
        exact ⟨ret_int HV.out.symm, HB3.out⟩
      · have HV := Lib.hid (O4.out G.out rfl rfl (.inr (.inr (.inr rfl))))
        go_enter Tryz.func48, Tryz.ntmps48
        go_wp2_with (first | (go_at_call 88; (with_reducible refine Calls.mono (NM.out _) ?_); rintro e w1 ⟨rfl, rfl⟩) | (go_at_call 89; (with_reducible refine Calls.mono CK.out ?_); rintro e w2 ⟨rfl, hb2⟩; have HS2 := Lib.hid (show w.heap.size < w2.heap.size from Nat.lt_of_lt_of_le HA0.out hb2.size); have BK1 := Lib.hid (BK.out _ (bstep (Nat.le_refl _) HA.out hb2)); have HB2 := Lib.hid (bstep (Nat.le_refl _) HA.out hb2); have hk0 := (hb2.cell (p := ⟨w.heap.size, 0, none⟩) (by simp)).trans (World.cell?_alloc_new _ _ _ _); have hk1 := (hb2.cell (p := ⟨w.heap.size, 1, none⟩) (by simp)).trans (World.cell?_alloc_new _ _ _ _); have hk2 := (hb2.cell (p := ⟨w.heap.size, 2, none⟩) (by simp)).trans (World.cell?_alloc_new _ _ _ _); have hk3 := (hb2.cell (p := ⟨w.heap.size, 3, none⟩) (by simp)).trans (World.cell?_alloc_new _ _ _ _); have hk4 := (hb2.cell (p := ⟨w.heap.size, 4, none⟩) (by simp)).trans (World.cell?_alloc_new _ _ _ _); have hk5 := (hb2.cell (p := ⟨w.heap.size, 5, none⟩) (by simp)).trans (World.cell?_alloc_new _ _ _ _); have hk6 := (hb2.cell (p := ⟨w.heap.size, 6, none⟩) (by simp)).trans (World.cell?_alloc_new _ _ _ _); have hk7 := (hb2.cell (p := ⟨w.heap.size, 7, none⟩) (by simp)).trans (World.cell?_alloc_new _ _ _ _); have hk8 := (hb2.cell (p := ⟨w.heap.size, 8, none⟩) (by simp)).trans (World.cell?_alloc_new _ _ _ _); have hk9 := (hb2.cell (p := ⟨w.heap.size, 9, none⟩) (by simp)).trans (World.cell?_alloc_new _ _ _ _); clear hb2) | (go_at_call 90; (with_reducible refine Calls.mono BK1.out ?_); rintro e w3 ⟨rfl, hb3⟩; have hj0 := (hb3.cell (p := ⟨w.heap.size, 0, none⟩) (by have := HS2.out; omega)).trans hk0; have hj8 := (hb3.cell (p := ⟨w.heap.size, 8, none⟩) (by have := HS2.out; omega)).trans hk8; have HB3 := Lib.hid (bstep (Nat.le_refl _) HB2.out hb3); clear hb3))
        go_ret
        exact ⟨ret_int HV.out.symm, HB3.out⟩
    · have HV := Lib.hid (O3.out G.out rfl c0)
      go_enter Tryz.func48, Tryz.ntmps48
      go_wp2_with (first | (go_at_call 88; (with_reducible refine Calls.mono (NM.out _) ?_); rintro e w1 ⟨rfl, rfl⟩) | (go_at_call 89; (with_reducible refine Calls.mono CK.out ?_); rintro e w2 ⟨rfl, hb2⟩; have HS2 := Lib.hid (show w.heap.size < w2.heap.size from Nat.lt_of_lt_of_le HA0.out hb2.size); have BK1 := Lib.hid (BK.out _ (bstep (Nat.le_refl _) HA.out hb2)); have HB2 := Lib.hid (bstep (Nat.le_refl _) HA.out hb2); have hk0 := (hb2.cell (p := ⟨w.heap.size, 0, none⟩) (by simp)).trans (World.cell?_alloc_new _ _ _ _); have hk1 := (hb2.cell (p := ⟨w.heap.size, 1, none⟩) (by simp)).trans (World.cell?_alloc_new _ _ _ _); have hk2 := (hb2.cell (p := ⟨w.heap.size, 2, none⟩) (by simp)).trans (World.cell?_alloc_new _ _ _ _); have hk3 := (hb2.cell (p := ⟨w.heap.size, 3, none⟩) (by simp)).trans (World.cell?_alloc_new _ _ _ _); have hk4 := (hb2.cell (p := ⟨w.heap.size, 4, none⟩) (by simp)).trans (World.cell?_alloc_new _ _ _ _); have hk5 := (hb2.cell (p := ⟨w.heap.size, 5, none⟩) (by simp)).trans (World.cell?_alloc_new _ _ _ _); have hk6 := (hb2.cell (p := ⟨w.heap.size, 6, none⟩) (by simp)).trans (World.cell?_alloc_new _ _ _ _); have hk7 := (hb2.cell (p := ⟨w.heap.size, 7, none⟩) (by simp)).trans (World.cell?_alloc_new _ _ _ _); have hk8 := (hb2.cell (p := ⟨w.heap.size, 8, none⟩) (by simp)).trans (World.cell?_alloc_new _ _ _ _); have hk9 := (hb2.cell (p := ⟨w.heap.size, 9, none⟩) (by simp)).trans (World.cell?_alloc_new _ _ _ _); clear hb2) | (go_at_call 90; (with_reducible refine Calls.mono BK1.out ?_); rintro e w3 ⟨rfl, hb3⟩; have hj0 := (hb3.cell (p := ⟨w.heap.size, 0, none⟩) (by have := HS2.out; omega)).trans hk0; have hj8 := (hb3.cell (p := ⟨w.heap.size, 8, none⟩) (by have := HS2.out; omega)).trans hk8; have HB3 := Lib.hid (bstep (Nat.le_refl _) HB2.out hb3); clear hb3))
      go_ret
      exact ⟨ret_int HV.out.symm, HB2.out⟩

end Go.Proofs.YtflcdkibjakciaaGreatDoor
