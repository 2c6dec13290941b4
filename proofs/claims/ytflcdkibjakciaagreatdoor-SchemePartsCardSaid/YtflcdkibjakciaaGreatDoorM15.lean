/-
  MERGED (mergek.py): the texts Se, W3, T22.
-/
import Derived.Test.YtflcdkibjakciaaGreatDoorM14
import Derived.Test.YtflcdkibjakciaaGreatDoorM8
import Derived.Deep.RegionHeld3
import Derived.Deep.QuietTactic
import Derived.Test.YtflcdkibjakciaaGreatDoorM5
import Derived.Test.YtflcdkibjakciaaGreatDoorM7
import Derived.Test.YtflcdkibjakciaaGreatDoorM6
import Derived.Test.YtflcdkibjakciaaGreatDoorW1

namespace Go.Proofs.YtflcdkibjakciaaGreatDoor
namespace Sc
open Go.Lib Te Cr

structure GoodS (k : Nat) (st : PS) : Prop where
  len : st.out.length ≤ k
  each : ∀ s ∈ st.out, s.br.length ≤ k ∧ s.nm.size ≤ 16384 ∧ count s.cond ≤ 40
  last : -1 ≤ st.last ∧ st.last ≤ 15
  ex : ∀ A s, st.out = A ++ [s] → 0 ≤ s.ex ∧ s.ex < 2 ^ (st.last + 1).toNat
  zero : st.state = 0 → st.out = []
  some : st.state ≠ 0 → st.out ≠ []
  few : st.state = 1 ∨ st.state = 2 → ∀ A s, st.out = A ++ [s] → s.br = []
  more : 3 ≤ st.state → ∀ A s, st.out = A ++ [s] → s.br ≠ []
  four : st.state ≤ 4

theorem good0 : GoodS 0 ps0 := ⟨by simp [ps0], fun s h => by simp [ps0] at h, by simp [ps0], fun A s h => by simp [ps0] at h, fun _ => rfl, fun h => absurd rfl h, fun h => by simp [ps0] at h, fun h => by simp [ps0] at h, by simp [ps0]⟩

theorem GoodS.mono {k : Nat} {st : PS} (h : GoodS k st) : GoodS (k + 1) st :=
  ⟨Nat.le_succ_of_le h.len, fun s hs => ⟨Nat.le_succ_of_le (h.each s hs).1, (h.each s hs).2⟩, h.last, h.ex, h.zero, h.some, h.few, h.more, h.four⟩

theorem snoc_inj {A B : List Sch} {s t : Sch} (h : A ++ [s] = B ++ [t]) : A = B ∧ s = t := by
  have := List.append_inj' h rfl
  exact ⟨this.1, by injection this.2⟩

theorem snoc_of {L : List Sch} (h : L ≠ []) : ∃ A s, L = A ++ [s] := by
  rcases List.eq_nil_or_concat L with e | ⟨A, s, e⟩
  · exact absurd e h
  · exact ⟨A, s, by rw [e, List.concat_eq_append]⟩

theorem headR_some {w : List (List UInt8)} {s : Sch} (h : headR w = some s) : ∃ a b r num least, ∃ nm : List UInt8, w = a :: nm :: b :: r ∧ (r = [] ∨ r = [wEnt]) ∧ Wo.nameB nm = true ∧ num0 a 15 = some num ∧ num0 b 268435456 = some least ∧ s = ⟨num, ⟨nm.toArray⟩, .mk 0 0 0 [], [], least, 0, decide (r = [wEnt])⟩ := by
  unfold headR at h
  split at h
  · rename_i a nm b r
    split at h
    · rename_i h1
      split at h
      · rename_i h2
        split at h
        · rename_i n m e1 e2
          injection h with h
          exact ⟨a, b, r, n, m, nm, rfl, h1, h2, e1, e2, h.symm⟩
        · cases h
      · cases h
    · cases h
  · cases h

theorem num0_bd {a : List UInt8} {most v : Int} (h : num0 a most = some v) : 0 ≤ v ∧ v ≤ most := by
  unfold num0 at h
  split at h
  · split at h
    · cases h
    · injection h with h; omega
  · cases h

theorem condR_left {w : List (List UInt8)} {t : Tm} (h : condR w = .inl t) : chkT t = 0 := by
  unfold condR at h
  split at h
  · cases h
  · rename_i t' r e
    split at h
    · cases h
    · rename_i h1
      split at h
      · injection h with h; rw [← h]; omega
      · cases h

theorem GoodS.step {k : Nat} {st st2 : PS} {w : List (List UInt8)} (h : GoodS k st) (hw : w ≠ []) (hz : ∀ x ∈ w, x.length ≤ 16384) (hs : stepP st w = .inl st2) : GoodS (k + 1) st2 := by
  rw [stepP.eq_def] at hs
  cases w with
  | nil => exact absurd rfl hw
  | cons x r =>
    dsimp only at hs
    split at hs
    · split at hs
      · rename_i s e
        injection hs with hs
        subst hs
        obtain ⟨a, b, r2, num, least, nm, rfl, h1, h2, h3, h4, rfl⟩ := headR_some e
        have hnz := hz nm (by simp)
        refine ⟨by have := h.len; simp; omega, fun s hs => ?_, by simp, fun A s e => ?_, by simp, by simp, fun _ A s e => ?_, by simp, by simp⟩
        · simp only [List.mem_append, List.mem_singleton] at hs
          rcases hs with hs | rfl
          · have := h.each s hs; exact ⟨by omega, this.2⟩
          · exact ⟨by simp, hnz, by show Te.count (Tm.mk 0 0 0 []) ≤ 40; simp [Te.count, countL]⟩
        · obtain ⟨-, rfl⟩ := snoc_inj e
          simp
        · obtain ⟨-, rfl⟩ := snoc_inj e
          rfl
      · cases hs
    split at hs
    · rename_i hst
      split at hs
      · rename_i t e
        injection hs with hs
        subst hs
        obtain ⟨A, s0, eo⟩ := snoc_of (h.some (by omega))
        have ct := (chkT_ok (condR_left e)).1
        have hb0 := h.few (by omega) A s0 eo
        rw [eo, onLast_snoc]
        refine ⟨by have := h.len; rw [eo] at this; simp at this ⊢; omega, fun s hs => ?_, h.last, fun A' s e => ?_, by simp, by simp, fun _ A' s e => ?_, by simp, by simp⟩
        · simp only [List.mem_append, List.mem_singleton] at hs
          rcases hs with hs | rfl
          · have := h.each s (by rw [eo]; simp [hs]); exact ⟨by omega, this.2⟩
          · have := h.each s0 (by rw [eo]; simp); exact ⟨by simp only; omega, this.2.1, ct⟩
        · obtain ⟨-, rfl⟩ := snoc_inj e
          exact h.ex A s0 eo
        · obtain ⟨-, rfl⟩ := snoc_inj e
          exact hb0
      · cases hs
    split at hs
    · rename_i hst
      split at hs
      · rename_i b e
        injection hs with hs
        subst hs
        obtain ⟨A, s0, eo⟩ := snoc_of (h.some (by omega))
        rw [eo, onLast_snoc]
        refine ⟨by have := h.len; rw [eo] at this; simp at this ⊢; omega, fun s hs => ?_, h.last, fun A' s e => ?_, by simp, by simp, by simp, fun _ A' s e => ?_, by simp⟩
        · simp only [List.mem_append, List.mem_singleton] at hs
          rcases hs with hs | rfl
          · have := h.each s (by rw [eo]; simp [hs]); exact ⟨by omega, this.2⟩
          · have := h.each s0 (by rw [eo]; simp); exact ⟨by simp only [List.length_append, List.length_cons, List.length_nil]; omega, this.2⟩
        · obtain ⟨-, rfl⟩ := snoc_inj e
          exact h.ex A s0 eo
        · obtain ⟨-, rfl⟩ := snoc_inj e
          simp
      · cases hs
    split at hs
    · rename_i hst
      split at hs
      · rename_i a
        split at hs
        · rename_i x e
          split at hs
          · cases hs
          · rename_i hxl
            injection hs with hs
            subst hs
            obtain ⟨A, s0, eo⟩ := snoc_of (h.some (by omega))
            obtain ⟨x0, x1⟩ := num0_bd e
            obtain ⟨e0, e1⟩ := h.ex A s0 eo
            have hmono : (2 : Int) ^ (st.last + 1).toNat ≤ 2 ^ x.toNat := by
              have : (2 : Nat) ^ (st.last + 1).toNat ≤ 2 ^ x.toNat := Nat.pow_le_pow_right (by omega) (by omega)
              exact_mod_cast this
            have hb0 := h.more (by omega) A s0 eo
            rw [eo, onLast_snoc]
            refine ⟨by have := h.len; rw [eo] at this; simp at this ⊢; omega, fun s hs => ?_, by simp only; omega, fun A' s e => ?_, by simp, by simp, by simp, fun _ A' s e => ?_, by simp⟩
            · simp only [List.mem_append, List.mem_singleton] at hs
              rcases hs with hs | rfl
              · have := h.each s (by rw [eo]; simp [hs]); exact ⟨by omega, this.2⟩
              · have := h.each s0 (by rw [eo]; simp); exact ⟨by simp only; omega, this.2⟩
            · obtain ⟨-, rfl⟩ := snoc_inj e
              have ep : (2 : Int) ^ (x + 1).toNat = 2 ^ x.toNat * 2 := by rw [show (x + 1).toNat = x.toNat + 1 by omega, Int.pow_succ]
              have : (0 : Int) < 2 ^ x.toNat := Int.pow_pos (by omega)
              simp only
              rw [ep]
              omega
            · obtain ⟨-, rfl⟩ := snoc_inj e
              exact hb0
        · cases hs
      · cases hs
    · cases hs

/-- A step that fails names an error. -/
theorem step_err {st : PS} {w : List (List UInt8)} {er : Int} (hw : w ≠ []) (hs : stepP st w = .inr er) : er = 4 ∨ er = 1 ∨ er = 16 := by
  rw [stepP.eq_def] at hs
  cases w with
  | nil => exact absurd rfl hw
  | cons x r =>
    dsimp only at hs
    split at hs
    · split at hs
      · cases hs
      · injection hs with hs; exact .inl hs.symm
    split at hs
    · split at hs
      · cases hs
      · rename_i e e2
        injection hs with hs
        subst hs
        unfold condR at e2
        split at e2
        · injection e2 with e2; exact .inl e2.symm
        · split at e2
          · injection e2 with e2
            rename_i t _ _ _
            rw [← e2]
            unfold chkT
            split
            · omega
            · split
              · omega
              · rename_i h1 h2 h3 h4; exfalso; unfold chkT at *; simp_all
          · split at e2
            · cases e2
            · injection e2 with e2; exact .inl e2.symm
    split at hs
    · split at hs
      · cases hs
      · injection hs with hs; exact .inl hs.symm
    split at hs
    · split at hs
      · split at hs
        · split at hs
          · injection hs with hs; exact .inl hs.symm
          · cases hs
        · injection hs with hs; exact .inl hs.symm
      · injection hs with hs; exact .inl hs.symm
    · injection hs with hs; exact .inl hs.symm

end Sc
end Go.Proofs.YtflcdkibjakciaaGreatDoor

namespace Go.Proofs.YtflcdkibjakciaaGreatDoor
open Go.RowKit

theorem name_len {l : List UInt8} (h : l.length < 1 ∨ 12 < l.length) : Wo.nameB l = false := by
  unfold Wo.nameB
  have : (decide (1 ≤ l.length) && decide (l.length ≤ 12)) = false := by
    rw [Bool.and_eq_false_iff, decide_eq_false_iff_not, decide_eq_false_iff_not]; omega
  rw [this, Bool.and_false]

set_option maxHeartbeats 2000000 in
theorem refname_any (s : ByteArray) (w : World) (hs : s.size ≤ 9223372036854775807) :
    Calls Tryz.prog 88 #[.string s] w (NameGive s.data.toList w) := by
  have hlen : s.data.toList.length = s.size := by rw [Array.length_toList]; rfl
  by_cases h1 : s.size < 1
  · have HN := Lib.hid (name_len (l := s.data.toList) (.inl (by omega)))
    have h1' : (s.size : Int) < 1 := by omega
    clear h1 hlen
    go_enter Tryz.func88, Tryz.ntmps88
    go_wp2
    go_ret
    exact ⟨ret_b HN.out.symm, rfl⟩
  have g1 : ¬ (s.size : Int) < 1 := by omega
  by_cases h2 : 12 < s.size
  · have HN := Lib.hid (name_len (l := s.data.toList) (.inr (by omega)))
    have h2' : (12 : Int) < (s.size : Int) := by omega
    clear h1 h2 hlen
    go_enter Tryz.func88, Tryz.ntmps88
    go_wp2
    go_ret
    exact ⟨ret_b HN.out.symm, rfl⟩
  have g2 : ¬ (12 : Int) < (s.size : Int) := by omega
  have h0 : 0 < s.size := by omega
  have H1 := Lib.hid (show Wo.headB (s.data.toList.take 1) = Wo.letB s[0] by
    rw [Wo.take_snoc_bytes s 0 h0, Wo.headB_snoc]; simp [Wo.headB])
  have HN := Lib.hid (show Wo.headB s.data.toList = true → Wo.nameB s.data.toList = true by
    intro h
    unfold Wo.nameB
    rw [h, Bool.true_and, Bool.and_eq_true, decide_eq_true_eq, decide_eq_true_eq, hlen]; omega)
  have hlen' := Lib.hid hlen
  clear h1 h2 hlen
  cases hl : Wo.letB s[0]
  · have HF := Lib.hid (headB_false (l := s.data.toList) (k := 1) (by rw [H1.out, hl]))
    rcases byte_kinds s[0] with ⟨c1, l1, d1⟩ | ⟨c1, c2, l1, d1⟩ | ⟨c1, c2, l1, d1⟩ | ⟨c1, c2, l1, d1⟩ | ⟨c1, l1, d1⟩
    all_goals first | (rw [hl] at l1; cases l1; done) | skip
    all_goals
      clear l1 d1 hl
      go_enter Tryz.func88, Tryz.ntmps88
      go_wp2
      go_ret
      exact ⟨ret_b HF.out.symm, rfl⟩
  · have HL := Lib.hid hl
    have hh : 97 ≤ ((s[0]).toNat : Int) ∧ ((s[0]).toNat : Int) ≤ 122 := by
      simp only [Wo.letB, Bool.and_eq_true, decide_eq_true_eq] at hl; exact hl
    obtain ⟨c1, c2⟩ := hh
    clear hl
    go_enter Tryz.func88, Tryz.ntmps88
    go_wp2
    clear c1 c2
    go_loop [3] (fun i => ∃ k : Nat, k ≤ s.size ∧ i = .int .i64 k ∧ Wo.headB (s.data.toList.take k) = true) (fun i => s.size - (intOf i).toNat)
    case atStart => exact ⟨0, Nat.zero_le _, rfl, rfl⟩
    case round =>
      obtain ⟨k, hk, rfl, hh⟩ := hrel
      have HH := Lib.hid hh
      clear hh
      have hk0 : (0 : Int) ≤ (k : Int) := Int.natCast_nonneg _
      by_cases hlt : k < s.size
      · have HS := Lib.hid (show Wo.headB (s.data.toList.take (k + 1)) = (Wo.letB s[k] || Wo.digB s[k]) by
          rcases Nat.eq_zero_or_pos k with h0 | hpos
          · subst h0
            rw [H1.out, HL.out]; rfl
          · rw [Wo.take_snoc_bytes s k hlt, Wo.headB_snoc, HH.out, Bool.true_and]
            have : (s.data.toList.take k).isEmpty = false := by
              rw [List.isEmpty_eq_false_iff, ne_eq, List.take_eq_nil_iff, not_or]
              exact ⟨by omega, fun e => by have h9 : s.data.toList.length = 0 := (by rw [e]; rfl); rw [hlen'.out] at h9; omega⟩
            rw [this]; rfl)
        rcases byte_kinds s[k] with ⟨c1, l1, d1⟩ | ⟨c1, c2, l1, d1⟩ | ⟨c1, c2, l1, d1⟩ | ⟨c1, c2, l1, d1⟩ | ⟨c1, l1, d1⟩
        all_goals
          rw [l1, d1] at HS
          clear l1 d1
          go_wp2
          first
            | (go_round
               case rel => exact ⟨k + 1, by omega, by go_num, HS.out⟩
               case measure => simp [intOf]; omega)
            | (go_ret
               exact ⟨ret_b (headB_false HS.out).symm, rfl⟩)
      · obtain rfl : k = s.size := by omega
        have HE := Lib.hid (HN.out (by have h := HH.out; rwa [List.take_of_length_le (by rw [Array.length_toList]; exact Nat.le_refl _)] at h))
        go_wp2
        go_ret
        exact ⟨ret_b HE.out.symm, rfl⟩

end Go.Proofs.YtflcdkibjakciaaGreatDoor

namespace Go.Proofs.YtflcdkibjakciaaGreatDoor
open Go.RowKit Te Sc

theorem and_bit (v : Int) : bits BinOp.and IntKind.i64 v 1 = v % 2 := by
  have h1 : bits BinOp.and IntKind.i64 v 1 = IntKind.i64.wrap (((BitVec.ofInt 64 v &&& BitVec.ofInt 64 1 : BitVec 64).toNat : Nat) : Int) := rfl
  rw [h1, BitVec.toNat_and, BitVec.toNat_ofInt, BitVec.toNat_ofInt, show ((1 : Int) % ((2 ^ 64 : Nat) : Int)).toNat = 1 from by decide, Nat.and_one_is_mod, IntKind.wrap_i64, show (((2 ^ 64 : Nat) : Int)) = 18446744073709551616 from by decide]
  omega

theorem bit_one (x n : Int) : (bits BinOp.and IntKind.i64 (x / 2 ^ n.toNat) 1 == 1) = bitB x n := by
  rw [and_bit]; unfold bitB
  rw [Bool.eq_iff_iff, beq_iff_eq, decide_eq_true_eq]

theorem bit_zero (x n : Int) : (bits BinOp.and IntKind.i64 (x / 2 ^ n.toNat) 1 == 0) = !bitB x n := by
  rw [and_bit]; unfold bitB
  rw [Bool.eq_iff_iff, beq_iff_eq, Bool.not_eq_true', decide_eq_false_iff_not]
  omega


/-- What one17 is, its parts being values. -/
def oneV (num least ex : Int) (nb : Bool) (ck : Int) (bb bit : Bool) : Int :=
  if num < 0 ∨ 15 < num ∨ least < 0 ∨ 268435456 < least then 2 else if nb = false then 5 else if ck ≠ 0 then ck else if bb = false ∨ ex < 0 ∨ 65536 ≤ ex ∨ bit = true then 3 else 0

theorem one_cases {num least ex : Int} {nb : Bool} {ck : Int} {bb bit : Bool} {v : Int} (h : oneV num least ex nb ck bb bit = v) :
    (num < 0 ∨ 15 < num ∨ least < 0 ∨ 268435456 < least → v = 2) ∧ (¬ (num < 0 ∨ 15 < num ∨ least < 0 ∨ 268435456 < least) → nb = false → v = 5) ∧
    (¬ (num < 0 ∨ 15 < num ∨ least < 0 ∨ 268435456 < least) → nb = true → ck ≠ 0 → v = ck) ∧
    (¬ (num < 0 ∨ 15 < num ∨ least < 0 ∨ 268435456 < least) → nb = true → ck = 0 → (bb = false ∨ ex < 0 ∨ 65536 ≤ ex ∨ bit = true) → v = 3) ∧
    (¬ (num < 0 ∨ 15 < num ∨ least < 0 ∨ 268435456 < least) → nb = true → ck = 0 → ¬ (bb = false ∨ ex < 0 ∨ 65536 ≤ ex ∨ bit = true) → v = 0) := by
  subst h
  unfold oneV
  refine ⟨fun h => by rw [if_pos h], fun h h2 => by rw [if_neg h, if_pos h2], fun h h2 h3 => by rw [if_neg h, if_neg (by rw [h2]; decide), if_pos h3], fun h h2 h3 h4 => ?_, fun h h2 h3 h4 => ?_⟩
  · rw [if_neg h, if_neg (by rw [h2]; decide), if_neg (by omega), if_pos h4]
  · rw [if_neg h, if_neg (by rw [h2]; decide), if_neg (by omega), if_neg h4]

set_option maxRecDepth 100000 in
set_option maxHeartbeats 3000000 in
theorem valid_any {Q : Nat → Prop} (d : Nat) (r : RSx) (s : Sch) (w : World) (h : SV Q w d r s) (hz : r.nm.size ≤ 9223372036854775807) :
    Calls Tryz.prog 35 #[.agg #[.int .i64 r.num, .string r.nm, .int .i64 r.t.op, .int .i64 r.t.num, .int .i64 r.t.more, .slice r.t.p r.t.n r.t.c, .slice r.bp r.bn r.bc, .int .i64 r.least, .int .i64 r.ex, .bool r.needs]] w (IntG (one17 s) w) := by
  have hA : Below w.heap.size w (w.alloc (.cells #[.int .i64 r.num, .string r.nm, .int .i64 r.t.op, .int .i64 r.t.num, .int .i64 r.t.more, .slice r.t.p r.t.n r.t.c, .slice r.bp r.bn r.bc, .int .i64 r.least, .int .i64 r.ex, .bool r.needs] 32)) := (Below.refl _ _).alloc (Nat.le_refl _) _
  have NM := Lib.hid (show ∀ W, Calls Tryz.prog 59 #[.string r.nm] W (fun e w' => e = .returned (.bool (Wo.nameB s.nm.data.toList)) ∧ W = w') from fun W => h.nm ▸ name_any r.nm W hz)
  have CK := Lib.hid (check16_any d r.t s.cond _ (h.below hA).t)
  have BK := Lib.hid (fun (W : World) (hW : Below w.heap.size w W) => show Calls Tryz.prog 61 #[.slice r.bp r.bn r.bc] W (BoolG (brB s.br) W) from brackets_any r.bp s.br r.bn r.bc W h.bn (h.below hW).br)
  obtain ⟨v, ev⟩ : ∃ v, one17 s = v := ⟨_, rfl⟩
  have OC := one_cases (show oneV r.num r.least r.ex (Wo.nameB s.nm.data.toList) (chkT s.cond) (brB s.br) (bitB r.ex r.num) = v from by rw [← ev, h.num, h.least, h.ex]; rfl)
  rw [ev]
  obtain ⟨nb, enb⟩ : ∃ x, Wo.nameB s.nm.data.toList = x := ⟨_, rfl⟩
  obtain ⟨ck, eck⟩ : ∃ x, chkT s.cond = x := ⟨_, rfl⟩
  obtain ⟨bb, ebb⟩ : ∃ x, brB s.br = x := ⟨_, rfl⟩
  rw [enb] at NM OC
  rw [eck] at CK OC
  rw [ebb] at BK OC
  clear enb eck ebb h ev hz
  obtain ⟨num, nm, ⟨o, tn, tm, tp, tl, tc⟩, bp, bn, bc, least, ex, needs⟩ := r
  have HA := Lib.hid hA
  clear hA
  have HA0 := Lib.hid (show w.heap.size < (w.alloc (.cells #[.int .i64 num, .string nm, .int .i64 o, .int .i64 tn, .int .i64 tm, .slice tp tl tc, .slice bp bn bc, .int .i64 least, .int .i64 ex, .bool needs] 32)).heap.size by simp)
  obtain ⟨bit, ebit⟩ : ∃ x, bitB ex num = x := ⟨_, rfl⟩
  have EB : (bits BinOp.and IntKind.i64 (ex / 2 ^ num.toNat) 1 == 1) = bit := by rw [bit_one, ebit]
  simp only [ebit] at OC
  clear ebit
  obtain ⟨O1, O2, O3, O4, O5⟩ := OC
  replace O1 := Lib.hid O1
  replace O2 := Lib.hid O2
  replace O3 := Lib.hid O3
  replace O4 := Lib.hid O4
  replace O5 := Lib.hid O5
  by_cases g : num < 0 ∨ 15 < num ∨ least < 0 ∨ 268435456 < least
  · have HV := Lib.hid (O1.out g)
    have G := Lib.hid g
    clear g
    by_cases g1 : num < 0
    · go_enter Tryz.func35, Tryz.ntmps35
      go_wp2_with (fail)
      go_ret
      exact ⟨ret_int HV.out.symm, HA.out⟩
    by_cases g2 : 15 < num
    · go_enter Tryz.func35, Tryz.ntmps35
      go_wp2_with (fail)
      go_ret
      exact ⟨ret_int HV.out.symm, HA.out⟩
    by_cases g3 : least < 0
    · go_enter Tryz.func35, Tryz.ntmps35
      go_wp2_with (fail)
      go_ret
      exact ⟨ret_int HV.out.symm, HA.out⟩
    have g4 : 268435456 < least := by have := G.out; omega
    · go_enter Tryz.func35, Tryz.ntmps35
      go_wp2_with (fail)
      go_ret
      exact ⟨ret_int HV.out.symm, HA.out⟩
  · have hn0 : 0 ≤ num := by omega
    have hn1 : num ≤ 15 := by omega
    have hl0 : 0 ≤ least := by omega
    have hl1 : least ≤ 268435456 := by omega
    have G := Lib.hid g
    clear g
    cases nb
    · have HV := Lib.hid (O2.out G.out rfl)
      go_enter Tryz.func35, Tryz.ntmps35
      go_wp2_with (first | (go_at_call 59; (with_reducible refine Calls.mono (NM.out _) ?_); rintro e w1 ⟨rfl, rfl⟩) | (go_at_call 60; (with_reducible refine Calls.mono CK.out ?_); rintro e w2 ⟨rfl, hb2⟩; have HS2 := Lib.hid (show w.heap.size < w2.heap.size from Nat.lt_of_lt_of_le HA0.out hb2.size); have BK1 := Lib.hid (BK.out _ (bstep (Nat.le_refl _) HA.out hb2)); have HB2 := Lib.hid (bstep (Nat.le_refl _) HA.out hb2); have hk0 := (hb2.cell (p := ⟨w.heap.size, 0, none⟩) (by simp)).trans (World.cell?_alloc_new _ _ _ _); have hk1 := (hb2.cell (p := ⟨w.heap.size, 1, none⟩) (by simp)).trans (World.cell?_alloc_new _ _ _ _); have hk2 := (hb2.cell (p := ⟨w.heap.size, 2, none⟩) (by simp)).trans (World.cell?_alloc_new _ _ _ _); have hk3 := (hb2.cell (p := ⟨w.heap.size, 3, none⟩) (by simp)).trans (World.cell?_alloc_new _ _ _ _); have hk4 := (hb2.cell (p := ⟨w.heap.size, 4, none⟩) (by simp)).trans (World.cell?_alloc_new _ _ _ _); have hk5 := (hb2.cell (p := ⟨w.heap.size, 5, none⟩) (by simp)).trans (World.cell?_alloc_new _ _ _ _); have hk6 := (hb2.cell (p := ⟨w.heap.size, 6, none⟩) (by simp)).trans (World.cell?_alloc_new _ _ _ _); have hk7 := (hb2.cell (p := ⟨w.heap.size, 7, none⟩) (by simp)).trans (World.cell?_alloc_new _ _ _ _); have hk8 := (hb2.cell (p := ⟨w.heap.size, 8, none⟩) (by simp)).trans (World.cell?_alloc_new _ _ _ _); have hk9 := (hb2.cell (p := ⟨w.heap.size, 9, none⟩) (by simp)).trans (World.cell?_alloc_new _ _ _ _); clear hb2) | (go_at_call 61; (with_reducible refine Calls.mono BK1.out ?_); rintro e w3 ⟨rfl, hb3⟩; have hj0 := (hb3.cell (p := ⟨w.heap.size, 0, none⟩) (by have := HS2.out; omega)).trans hk0; have hj8 := (hb3.cell (p := ⟨w.heap.size, 8, none⟩) (by have := HS2.out; omega)).trans hk8; have HB3 := Lib.hid (bstep (Nat.le_refl _) HB2.out hb3); clear hb3))
      go_ret
      exact ⟨ret_int HV.out.symm, HA.out⟩
    by_cases c0 : ck = 0
    · have CZ : (ck == 0) = true := by rw [c0]; rfl
      subst c0
      cases bb
      · have HV := Lib.hid (O4.out G.out rfl rfl (.inl rfl))
        go_enter Tryz.func35, Tryz.ntmps35
        go_wp2_with (first | (go_at_call 59; (with_reducible refine Calls.mono (NM.out _) ?_); rintro e w1 ⟨rfl, rfl⟩) | (go_at_call 60; (with_reducible refine Calls.mono CK.out ?_); rintro e w2 ⟨rfl, hb2⟩; have HS2 := Lib.hid (show w.heap.size < w2.heap.size from Nat.lt_of_lt_of_le HA0.out hb2.size); have BK1 := Lib.hid (BK.out _ (bstep (Nat.le_refl _) HA.out hb2)); have HB2 := Lib.hid (bstep (Nat.le_refl _) HA.out hb2); have hk0 := (hb2.cell (p := ⟨w.heap.size, 0, none⟩) (by simp)).trans (World.cell?_alloc_new _ _ _ _); have hk1 := (hb2.cell (p := ⟨w.heap.size, 1, none⟩) (by simp)).trans (World.cell?_alloc_new _ _ _ _); have hk2 := (hb2.cell (p := ⟨w.heap.size, 2, none⟩) (by simp)).trans (World.cell?_alloc_new _ _ _ _); have hk3 := (hb2.cell (p := ⟨w.heap.size, 3, none⟩) (by simp)).trans (World.cell?_alloc_new _ _ _ _); have hk4 := (hb2.cell (p := ⟨w.heap.size, 4, none⟩) (by simp)).trans (World.cell?_alloc_new _ _ _ _); have hk5 := (hb2.cell (p := ⟨w.heap.size, 5, none⟩) (by simp)).trans (World.cell?_alloc_new _ _ _ _); have hk6 := (hb2.cell (p := ⟨w.heap.size, 6, none⟩) (by simp)).trans (World.cell?_alloc_new _ _ _ _); have hk7 := (hb2.cell (p := ⟨w.heap.size, 7, none⟩) (by simp)).trans (World.cell?_alloc_new _ _ _ _); have hk8 := (hb2.cell (p := ⟨w.heap.size, 8, none⟩) (by simp)).trans (World.cell?_alloc_new _ _ _ _); have hk9 := (hb2.cell (p := ⟨w.heap.size, 9, none⟩) (by simp)).trans (World.cell?_alloc_new _ _ _ _); clear hb2) | (go_at_call 61; (with_reducible refine Calls.mono BK1.out ?_); rintro e w3 ⟨rfl, hb3⟩; have hj0 := (hb3.cell (p := ⟨w.heap.size, 0, none⟩) (by have := HS2.out; omega)).trans hk0; have hj8 := (hb3.cell (p := ⟨w.heap.size, 8, none⟩) (by have := HS2.out; omega)).trans hk8; have HB3 := Lib.hid (bstep (Nat.le_refl _) HB2.out hb3); clear hb3))
        go_ret
        exact ⟨ret_int HV.out.symm, HB3.out⟩
      by_cases e1 : ex < 0
      · have HV := Lib.hid (O4.out G.out rfl rfl (.inr (.inl e1)))
        go_enter Tryz.func35, Tryz.ntmps35
        go_wp2_with (first | (go_at_call 59; (with_reducible refine Calls.mono (NM.out _) ?_); rintro e w1 ⟨rfl, rfl⟩) | (go_at_call 60; (with_reducible refine Calls.mono CK.out ?_); rintro e w2 ⟨rfl, hb2⟩; have HS2 := Lib.hid (show w.heap.size < w2.heap.size from Nat.lt_of_lt_of_le HA0.out hb2.size); have BK1 := Lib.hid (BK.out _ (bstep (Nat.le_refl _) HA.out hb2)); have HB2 := Lib.hid (bstep (Nat.le_refl _) HA.out hb2); have hk0 := (hb2.cell (p := ⟨w.heap.size, 0, none⟩) (by simp)).trans (World.cell?_alloc_new _ _ _ _); have hk1 := (hb2.cell (p := ⟨w.heap.size, 1, none⟩) (by simp)).trans (World.cell?_alloc_new _ _ _ _); have hk2 := (hb2.cell (p := ⟨w.heap.size, 2, none⟩) (by simp)).trans (World.cell?_alloc_new _ _ _ _); have hk3 := (hb2.cell (p := ⟨w.heap.size, 3, none⟩) (by simp)).trans (World.cell?_alloc_new _ _ _ _); have hk4 := (hb2.cell (p := ⟨w.heap.size, 4, none⟩) (by simp)).trans (World.cell?_alloc_new _ _ _ _); have hk5 := (hb2.cell (p := ⟨w.heap.size, 5, none⟩) (by simp)).trans (World.cell?_alloc_new _ _ _ _); have hk6 := (hb2.cell (p := ⟨w.heap.size, 6, none⟩) (by simp)).trans (World.cell?_alloc_new _ _ _ _); have hk7 := (hb2.cell (p := ⟨w.heap.size, 7, none⟩) (by simp)).trans (World.cell?_alloc_new _ _ _ _); have hk8 := (hb2.cell (p := ⟨w.heap.size, 8, none⟩) (by simp)).trans (World.cell?_alloc_new _ _ _ _); have hk9 := (hb2.cell (p := ⟨w.heap.size, 9, none⟩) (by simp)).trans (World.cell?_alloc_new _ _ _ _); clear hb2) | (go_at_call 61; (with_reducible refine Calls.mono BK1.out ?_); rintro e w3 ⟨rfl, hb3⟩; have hj0 := (hb3.cell (p := ⟨w.heap.size, 0, none⟩) (by have := HS2.out; omega)).trans hk0; have hj8 := (hb3.cell (p := ⟨w.heap.size, 8, none⟩) (by have := HS2.out; omega)).trans hk8; have HB3 := Lib.hid (bstep (Nat.le_refl _) HB2.out hb3); clear hb3))
        go_ret
        exact ⟨ret_int HV.out.symm, HB3.out⟩
      by_cases e2 : 65536 ≤ ex
      · have HV := Lib.hid (O4.out G.out rfl rfl (.inr (.inr (.inl e2))))
        go_enter Tryz.func35, Tryz.ntmps35
        go_wp2_with (first | (go_at_call 59; (with_reducible refine Calls.mono (NM.out _) ?_); rintro e w1 ⟨rfl, rfl⟩) | (go_at_call 60; (with_reducible refine Calls.mono CK.out ?_); rintro e w2 ⟨rfl, hb2⟩; have HS2 := Lib.hid (show w.heap.size < w2.heap.size from Nat.lt_of_lt_of_le HA0.out hb2.size); have BK1 := Lib.hid (BK.out _ (bstep (Nat.le_refl _) HA.out hb2)); have HB2 := Lib.hid (bstep (Nat.le_refl _) HA.out hb2); have hk0 := (hb2.cell (p := ⟨w.heap.size, 0, none⟩) (by simp)).trans (World.cell?_alloc_new _ _ _ _); have hk1 := (hb2.cell (p := ⟨w.heap.size, 1, none⟩) (by simp)).trans (World.cell?_alloc_new _ _ _ _); have hk2 := (hb2.cell (p := ⟨w.heap.size, 2, none⟩) (by simp)).trans (World.cell?_alloc_new _ _ _ _); have hk3 := (hb2.cell (p := ⟨w.heap.size, 3, none⟩) (by simp)).trans (World.cell?_alloc_new _ _ _ _); have hk4 := (hb2.cell (p := ⟨w.heap.size, 4, none⟩) (by simp)).trans (World.cell?_alloc_new _ _ _ _); have hk5 := (hb2.cell (p := ⟨w.heap.size, 5, none⟩) (by simp)).trans (World.cell?_alloc_new _ _ _ _); have hk6 := (hb2.cell (p := ⟨w.heap.size, 6, none⟩) (by simp)).trans (World.cell?_alloc_new _ _ _ _); have hk7 := (hb2.cell (p := ⟨w.heap.size, 7, none⟩) (by simp)).trans (World.cell?_alloc_new _ _ _ _); have hk8 := (hb2.cell (p := ⟨w.heap.size, 8, none⟩) (by simp)).trans (World.cell?_alloc_new _ _ _ _); have hk9 := (hb2.cell (p := ⟨w.heap.size, 9, none⟩) (by simp)).trans (World.cell?_alloc_new _ _ _ _); clear hb2) | (go_at_call 61; (with_reducible refine Calls.mono BK1.out ?_); rintro e w3 ⟨rfl, hb3⟩; have hj0 := (hb3.cell (p := ⟨w.heap.size, 0, none⟩) (by have := HS2.out; omega)).trans hk0; have hj8 := (hb3.cell (p := ⟨w.heap.size, 8, none⟩) (by have := HS2.out; omega)).trans hk8; have HB3 := Lib.hid (bstep (Nat.le_refl _) HB2.out hb3); clear hb3))
        go_ret
        exact ⟨ret_int HV.out.symm, HB3.out⟩
      cases bit
      · have HV := Lib.hid (O5.out G.out rfl rfl (by simp; omega))
        go_enter Tryz.func35, Tryz.ntmps35
        go_wp2_with (first | (go_at_call 59; (with_reducible refine Calls.mono (NM.out _) ?_); rintro e w1 ⟨rfl, rfl⟩) | (go_at_call 60; (with_reducible refine Calls.mono CK.out ?_); rintro e w2 ⟨rfl, hb2⟩; have HS2 := Lib.hid (show w.heap.size < w2.heap.size from Nat.lt_of_lt_of_le HA0.out hb2.size); have BK1 := Lib.hid (BK.out _ (bstep (Nat.le_refl _) HA.out hb2)); have HB2 := Lib.hid (bstep (Nat.le_refl _) HA.out hb2); have hk0 := (hb2.cell (p := ⟨w.heap.size, 0, none⟩) (by simp)).trans (World.cell?_alloc_new _ _ _ _); have hk1 := (hb2.cell (p := ⟨w.heap.size, 1, none⟩) (by simp)).trans (World.cell?_alloc_new _ _ _ _); have hk2 := (hb2.cell (p := ⟨w.heap.size, 2, none⟩) (by simp)).trans (World.cell?_alloc_new _ _ _ _); have hk3 := (hb2.cell (p := ⟨w.heap.size, 3, none⟩) (by simp)).trans (World.cell?_alloc_new _ _ _ _); have hk4 := (hb2.cell (p := ⟨w.heap.size, 4, none⟩) (by simp)).trans (World.cell?_alloc_new _ _ _ _); have hk5 := (hb2.cell (p := ⟨w.heap.size, 5, none⟩) (by simp)).trans (World.cell?_alloc_new _ _ _ _); have hk6 := (hb2.cell (p := ⟨w.heap.size, 6, none⟩) (by simp)).trans (World.cell?_alloc_new _ _ _ _); have hk7 := (hb2.cell (p := ⟨w.heap.size, 7, none⟩) (by simp)).trans (World.cell?_alloc_new _ _ _ _); have hk8 := (hb2.cell (p := ⟨w.heap.size, 8, none⟩) (by simp)).trans (World.cell?_alloc_new _ _ _ _); have hk9 := (hb2.cell (p := ⟨w.heap.size, 9, none⟩) (by simp)).trans (World.cell?_alloc_new _ _ _ _); clear hb2) | (go_at_call 61; (with_reducible refine Calls.mono BK1.out ?_); rintro e w3 ⟨rfl, hb3⟩; have hj0 := (hb3.cell (p := ⟨w.heap.size, 0, none⟩) (by have := HS2.out; omega)).trans hk0; have hj8 := (hb3.cell (p := ⟨w.heap.size, 8, none⟩) (by have := HS2.out; omega)).trans hk8; have HB3 := Lib.hid (bstep (Nat.le_refl _) HB2.out hb3); clear hb3))
        go_ret
        exact ⟨ret_int HV.out.symm, HB3.out⟩
      · have HV := Lib.hid (O4.out G.out rfl rfl (.inr (.inr (.inr rfl))))
        go_enter Tryz.func35, Tryz.ntmps35
        go_wp2_with (first | (go_at_call 59; (with_reducible refine Calls.mono (NM.out _) ?_); rintro e w1 ⟨rfl, rfl⟩) | (go_at_call 60; (with_reducible refine Calls.mono CK.out ?_); rintro e w2 ⟨rfl, hb2⟩; have HS2 := Lib.hid (show w.heap.size < w2.heap.size from Nat.lt_of_lt_of_le HA0.out hb2.size); have BK1 := Lib.hid (BK.out _ (bstep (Nat.le_refl _) HA.out hb2)); have HB2 := Lib.hid (bstep (Nat.le_refl _) HA.out hb2); have hk0 := (hb2.cell (p := ⟨w.heap.size, 0, none⟩) (by simp)).trans (World.cell?_alloc_new _ _ _ _); have hk1 := (hb2.cell (p := ⟨w.heap.size, 1, none⟩) (by simp)).trans (World.cell?_alloc_new _ _ _ _); have hk2 := (hb2.cell (p := ⟨w.heap.size, 2, none⟩) (by simp)).trans (World.cell?_alloc_new _ _ _ _); have hk3 := (hb2.cell (p := ⟨w.heap.size, 3, none⟩) (by simp)).trans (World.cell?_alloc_new _ _ _ _); have hk4 := (hb2.cell (p := ⟨w.heap.size, 4, none⟩) (by simp)).trans (World.cell?_alloc_new _ _ _ _); have hk5 := (hb2.cell (p := ⟨w.heap.size, 5, none⟩) (by simp)).trans (World.cell?_alloc_new _ _ _ _); have hk6 := (hb2.cell (p := ⟨w.heap.size, 6, none⟩) (by simp)).trans (World.cell?_alloc_new _ _ _ _); have hk7 := (hb2.cell (p := ⟨w.heap.size, 7, none⟩) (by simp)).trans (World.cell?_alloc_new _ _ _ _); have hk8 := (hb2.cell (p := ⟨w.heap.size, 8, none⟩) (by simp)).trans (World.cell?_alloc_new _ _ _ _); have hk9 := (hb2.cell (p := ⟨w.heap.size, 9, none⟩) (by simp)).trans (World.cell?_alloc_new _ _ _ _); clear hb2) | (go_at_call 61; (with_reducible refine Calls.mono BK1.out ?_); rintro e w3 ⟨rfl, hb3⟩; have hj0 := (hb3.cell (p := ⟨w.heap.size, 0, none⟩) (by have := HS2.out; omega)).trans hk0; have hj8 := (hb3.cell (p := ⟨w.heap.size, 8, none⟩) (by have := HS2.out; omega)).trans hk8; have HB3 := Lib.hid (bstep (Nat.le_refl _) HB2.out hb3); clear hb3))
        go_ret
        exact ⟨ret_int HV.out.symm, HB3.out⟩
    · have HV := Lib.hid (O3.out G.out rfl c0)
      go_enter Tryz.func35, Tryz.ntmps35
      go_wp2_with (first | (go_at_call 59; (with_reducible refine Calls.mono (NM.out _) ?_); rintro e w1 ⟨rfl, rfl⟩) | (go_at_call 60; (with_reducible refine Calls.mono CK.out ?_); rintro e w2 ⟨rfl, hb2⟩; have HS2 := Lib.hid (show w.heap.size < w2.heap.size from Nat.lt_of_lt_of_le HA0.out hb2.size); have BK1 := Lib.hid (BK.out _ (bstep (Nat.le_refl _) HA.out hb2)); have HB2 := Lib.hid (bstep (Nat.le_refl _) HA.out hb2); have hk0 := (hb2.cell (p := ⟨w.heap.size, 0, none⟩) (by simp)).trans (World.cell?_alloc_new _ _ _ _); have hk1 := (hb2.cell (p := ⟨w.heap.size, 1, none⟩) (by simp)).trans (World.cell?_alloc_new _ _ _ _); have hk2 := (hb2.cell (p := ⟨w.heap.size, 2, none⟩) (by simp)).trans (World.cell?_alloc_new _ _ _ _); have hk3 := (hb2.cell (p := ⟨w.heap.size, 3, none⟩) (by simp)).trans (World.cell?_alloc_new _ _ _ _); have hk4 := (hb2.cell (p := ⟨w.heap.size, 4, none⟩) (by simp)).trans (World.cell?_alloc_new _ _ _ _); have hk5 := (hb2.cell (p := ⟨w.heap.size, 5, none⟩) (by simp)).trans (World.cell?_alloc_new _ _ _ _); have hk6 := (hb2.cell (p := ⟨w.heap.size, 6, none⟩) (by simp)).trans (World.cell?_alloc_new _ _ _ _); have hk7 := (hb2.cell (p := ⟨w.heap.size, 7, none⟩) (by simp)).trans (World.cell?_alloc_new _ _ _ _); have hk8 := (hb2.cell (p := ⟨w.heap.size, 8, none⟩) (by simp)).trans (World.cell?_alloc_new _ _ _ _); have hk9 := (hb2.cell (p := ⟨w.heap.size, 9, none⟩) (by simp)).trans (World.cell?_alloc_new _ _ _ _); clear hb2) | (go_at_call 61; (with_reducible refine Calls.mono BK1.out ?_); rintro e w3 ⟨rfl, hb3⟩; have hj0 := (hb3.cell (p := ⟨w.heap.size, 0, none⟩) (by have := HS2.out; omega)).trans hk0; have hj8 := (hb3.cell (p := ⟨w.heap.size, 8, none⟩) (by have := HS2.out; omega)).trans hk8; have HB3 := Lib.hid (bstep (Nat.le_refl _) HB2.out hb3); clear hb3))
      go_ret
      exact ⟨ret_int HV.out.symm, HB2.out⟩

end Go.Proofs.YtflcdkibjakciaaGreatDoor
