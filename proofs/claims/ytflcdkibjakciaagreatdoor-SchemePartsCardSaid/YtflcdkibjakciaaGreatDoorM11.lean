/-
  MERGED (mergek.py): the texts Ts, T9, T10.
-/
import Derived.Test.YtflcdkibjakciaaGreatDoorM2
import Derived.Test.YtflcdkibjakciaaGreatDoorM10
import Derived.Test.YtflcdkibjakciaaGreatDoorM8

namespace Go.Proofs.YtflcdkibjakciaaGreatDoor
namespace Te
open Go.Lib

mutual
/-- The text of a right term. -/
def tS : Tm → List UInt8
  | .mk o n m K => opW o ++
    (if o = 1 then []
    else if o = 4 then 32 :: Cr.mword n.toNat
    else if o = 7 then (32 :: itoa n) ++ (32 :: Cr.mword m.toNat)
    else if o = 11 then tSL K
    else if o = 9 ∨ o = 10 then [32, 40] ++ (tSL K ++ [32, 41])
    else 32 :: itoa n)
def tSL : List Tm → List UInt8
  | [] => []
  | k :: r => (32 :: tS k) ++ tSL r
end

theorem joinTail_nil : joinTail [32] [] = [] := rfl
theorem joinTail_cons (x : List UInt8) (r : List (List UInt8)) : joinTail [32] (x :: r) = (32 :: x) ++ joinTail [32] r := by simp [joinTail]
theorem joinTail_append (a b : List (List UInt8)) : joinTail [32] (a ++ b) = joinTail [32] a ++ joinTail [32] b := by simp [joinTail]

mutual
theorem tS_join : ∀ t : Tm, tS t = join (textW t) [32]
  | .mk o n m K => by
    have := tSL_join K
    rw [tS, textW, join_cons]
    congr 1
    repeat' split
    all_goals simp [joinTail_nil, joinTail_cons, joinTail_append, this]
theorem tSL_join : ∀ K : List Tm, tSL K = joinTail [32] (textL K)
  | [] => by rw [tSL, textL]; rfl
  | k :: r => by
    have h1 := tS_join k
    have h2 := tSL_join r
    rw [tSL, textL, joinTail_append, h2, h1]
    obtain ⟨o, n, m, K⟩ := k
    rw [textW, join_cons, joinTail_cons]
    simp
end

theorem tSL_append (A B : List Tm) : tSL (A ++ B) = tSL A ++ tSL B := by
  induction A with
  | nil => simp [tSL]
  | cons a r ih => rw [List.cons_append, tSL, tSL, ih, List.append_assoc]

theorem tSL_succ (K : List Tm) (j : Nat) (h : j < K.length) : tSL (K.take (j + 1)) = tSL (K.take j) ++ (32 :: tS K[j]) := by
  rw [List.take_succ_eq_append_getElem h, tSL_append, tSL, tSL, List.append_nil]

theorem tSL_take (K : List Tm) (j : Nat) : (tSL (K.take j)).length ≤ (tSL K).length := by
  have := tSL_append (K.take j) (K.drop j)
  rw [List.take_append_drop] at this
  rw [this, List.length_append]; omega

/-! ### how long -/
theorem itoa_le {n : Int} (h0 : 0 ≤ n) {k : Nat} (hk : 1 ≤ k) (h : n < 10 ^ k) : (itoa n).length ≤ k := by
  unfold itoa
  rw [if_neg (by omega), decDigits_length]
  have key : ∀ (k u : Nat), u < 10 ^ (k + 1) → nDigits u ≤ k + 1 := by
    intro k
    induction k with
    | zero => intro u hu; rw [nDigits_small (by simpa using hu)]; omega
    | succ k ih =>
      intro u hu
      by_cases h1 : u < 10
      · rw [nDigits_small h1]; omega
      · rw [nDigits_big h1]
        have := ih (u / 10) (by rw [Nat.pow_succ] at hu; omega)
        omega
  obtain ⟨k, rfl⟩ : ∃ j, k = j + 1 := ⟨k - 1, by omega⟩
  refine key k n.toNat ?_
  have e : ((10 ^ (k + 1) : Nat) : Int) = (10 : Int) ^ (k + 1) := by push_cast; rfl
  omega

theorem mword_single {m : Int} (h : single m = true) : (Cr.mword m.toNat).length = 1 := by
  simp only [single, Bool.or_eq_true, beq_iff_eq] at h
  rcases h with (((rfl | rfl) | rfl) | rfl) | rfl <;> decide +kernel

theorem opW_len : ∀ o : Int, 1 ≤ o → o ≤ 11 → (opW o).length ≤ 6 := by
  intro o h1 h2
  have : o = 1 ∨ o = 2 ∨ o = 3 ∨ o = 4 ∨ o = 5 ∨ o = 6 ∨ o = 7 ∨ o = 8 ∨ o = 9 ∨ o = 10 ∨ o = 11 := by omega
  rcases this with rfl | rfl | rfl | rfl | rfl | rfl | rfl | rfl | rfl | rfl | rfl <;> decide +kernel

mutual
theorem tS_len : ∀ t : Tm, form t = true → (tS t).length + 1 ≤ 12 * count t
  | .mk o n m K => fun h => by
    obtain ⟨o1, o2⟩ := form_op h
    have hw := opW_len o o1 o2
    rw [form, Bool.and_eq_true] at h
    have hL := tSL_len K h.2
    have hs := h.1
    rw [tS, count, List.length_append]
    by_cases h1 : o = 1
    · subst h1
      rw [if_pos rfl]
      simp
      omega
    rw [if_neg h1]
    by_cases h4 : o = 4
    · subst h4
      simp [selfB] at hs
      rw [if_pos rfl, List.length_cons, mword_single hs.1.1]
      have : (opW 4).length = 4 := rfl
      omega
    rw [if_neg h4]
    by_cases h7 : o = 7
    · subst h7
      simp [selfB] at hs
      rw [if_pos rfl, List.length_append, List.length_cons, List.length_cons, mword_single hs.1.2]
      have : (opW 7).length = 6 := rfl
      have := itoa_le (n := n) (by omega) (k := 2) (by omega) (by omega)
      omega
    rw [if_neg h7]
    by_cases h11 : o = 11
    · subst h11
      rw [if_pos rfl]
      have : (opW 11).length = 3 := rfl
      omega
    rw [if_neg h11]
    by_cases h9 : o = 9 ∨ o = 10
    · rw [if_pos h9]
      have : (opW o).length ≤ 3 := by rcases h9 with rfl | rfl <;> decide
      simp only [List.length_append, List.length_cons, List.length_nil]
      omega
    rw [if_neg h9, List.length_cons]
    have hb : 0 ≤ n ∧ n ≤ 40 := by
      unfold selfB at hs
      repeat' split at hs
      all_goals first | omega | (simp at hs) | (cases hs)
      all_goals omega
    have := itoa_le (n := n) hb.1 (k := 2) (by omega) (by omega)
    omega
theorem tSL_len : ∀ K : List Tm, formL K = true → (tSL K).length ≤ 12 * countL K
  | [], _ => by rw [tSL]; simp
  | k :: r, h => by
    rw [formL, Bool.and_eq_true] at h
    have h1 := tS_len k h.1
    have h2 := tSL_len r h.2
    rw [tSL, countL, List.length_append, List.length_cons]
    omega
end

/-- The words of a right term are few. -/
theorem lens_le (ws : List (List UInt8)) : ws.length ≤ (joinTail [32] ws).length := by
  induction ws with
  | nil => simp
  | cons x r ih => rw [joinTail_cons, List.length_append, List.length_cons, List.length_cons]; omega

theorem textW_len {t : Tm} (h : form t = true) : (textW t).length ≤ 12 * count t := by
  have h1 := tS_len t h
  rw [tS_join] at h1
  obtain ⟨o, n, m, K⟩ := t
  rw [textW] at h1 ⊢
  rw [join_cons, List.length_append] at h1
  rw [List.length_cons]
  have := lens_le (if o = 1 then [] else if o = 4 then [Cr.mword n.toNat] else if o = 7 then [itoa n, Cr.mword m.toNat] else if o = 11 then textL K else if o = 9 ∨ o = 10 then [40] :: (textL K ++ [[41]]) else [itoa n])
  omega

/-- A right term. -/
theorem chkT_ok {t : Tm} (h : chkT t = 0) : count t ≤ 40 ∧ depth t ≤ 8 ∧ form t = true := by
  unfold chkT at h
  split at h
  · omega
  · split at h
    · omega
    · next h1 h2 =>
      refine ⟨by omega, by omega, ?_⟩
      cases e : form t with
      | true => rfl
      | false => exact absurd (.inr e) h2

end Te
end Go.Proofs.YtflcdkibjakciaaGreatDoor

namespace Go.Proofs.YtflcdkibjakciaaGreatDoor
open Go.RowKit Te

set_option maxHeartbeats 4000000 in
theorem ops_any (o : Int) (h1 : 1 ≤ o) (h2 : o ≤ 11) (w : World) : Calls Tryz.prog 121 #[.int .i64 o] w (StrGive (opW o) w) := by
  have : o = 1 ∨ o = 2 ∨ o = 3 ∨ o = 4 ∨ o = 5 ∨ o = 6 ∨ o = 7 ∨ o = 8 ∨ o = 9 ∨ o = 10 ∨ o = 11 := by omega
  clear h1 h2
  rcases this with rfl | rfl | rfl | rfl | rfl | rfl | rfl | rfl | rfl | rfl | rfl
  all_goals
    go_enter Tryz.func121, Tryz.ntmps121
    go_wp2
    go_ret
    exact ⟨rfl, by go_grown⟩

theorem str_eq {a b : ByteArray} (h : a.data.toList = b.data.toList) : a = b := by
  cases a with | mk a => cases b with | mk b => simp at h; rw [h]

theorem app_list (a b : ByteArray) : (a ++ b).data.toList = a.data.toList ++ b.data.toList := by rw [ByteArray.data_append]; simp

theorem StrG.mk {w w' : World} {s : ByteArray} {l : List UInt8} (h : s.data.toList = l) (hb : Below w.heap.size w w') : StrGive l w (.returned (.string s)) w' :=
  ⟨by rw [show s = ⟨l.toArray⟩ from str_eq (by rw [h])], hb⟩

theorem sz_len (s : ByteArray) : s.data.toList.length = s.size := by rw [Array.length_toList]; rfl

def TextRAt (Q : Nat → Prop) (d : Nat) : Prop := ∀ (r : RT) (t : Tm) (w : World), TV Q w d r t → form t = true → (tS t).length ≤ 1000000 →
    Calls Tryz.prog 91 #[.agg #[.int .i64 r.op, .int .i64 r.num, .int .i64 r.more, .slice r.p r.n r.c]] w (StrGive (tS t) w)

theorem refdec_any (n : Int) (w : World) (h0 : -9223372036854775808 ≤ n) (h1 : n ≤ 9223372036854775807) : Calls Tryz.prog 31 #[.int .i64 n] w (DecGive n w) := refdecimal_any (n.natAbs + 1) n w (by omega) h0 h1

theorem Bx.nxt {w W W' : World} {r : RT} (hW : Bx w W r) (hb : Below W.heap.size W W') : Bx w W' r :=
  ⟨bstep (Nat.le_refl _) hW.below hb, ⟨(hb.cell (p := ⟨w.heap.size, 0, none⟩) hW.lt).trans hW.cells.c0, (hb.cell (p := ⟨w.heap.size, 0 + 1, none⟩) hW.lt).trans hW.cells.c1, (hb.cell (p := ⟨w.heap.size, 0 + 2, none⟩) hW.lt).trans hW.cells.c2, (hb.cell (p := ⟨w.heap.size, 0 + 3, none⟩) hW.lt).trans hW.cells.c3⟩, Nat.lt_of_lt_of_le hW.lt hb.size⟩

set_option maxRecDepth 100000 in
set_option maxHeartbeats 8000000 in
/-- The plain ones. -/
theorem textr_leaf {o n m : Int} {p : Option Addr} {c : Nat} {K : List Tm} {w : World} (hf : form (.mk o n m K) = true) (ho : ¬ o = 9 ∧ ¬ o = 10 ∧ ¬ o = 11) :
    Calls Tryz.prog 91 #[.agg #[.int .i64 o, .int .i64 n, .int .i64 m, .slice p K.length c]] w (StrGive (tS (.mk o n m K)) w) := by
  have B0 := Bx.box w ⟨o, n, m, p, K.length, c⟩ 29
  simp only at B0
  obtain ⟨o1, o2⟩ := form_op hf
  rw [form_cons, Bool.and_eq_true] at hf
  have hs := hf.1
  clear hf
  have OP := Lib.hid (fun (W : World) => ops_any o o1 o2 W)
  by_cases h1 : o = 1
  · subst h1
    have HX := Lib.hid B0
    have HT := Lib.hid (show (⟨#[116, 114, 117, 101]⟩ : ByteArray).data.toList = tS (.mk 1 n m K) by rw [tS, if_pos rfl]; rfl)
    have OP1 := Lib.hid (show ∀ W, Calls Tryz.prog 121 #[.int .i64 1] W (fun e w' => e = .returned (.string ⟨#[116, 114, 117, 101]⟩) ∧ Below W.heap.size W w') from fun W => OP.out W)
    clear B0 hs o1 o2 ho OP
    go_enter Tryz.func91, Tryz.ntmps91
    go_wp2_with (first | (go_at_call 121; (with_reducible refine Calls.mono (OP1.out _) ?_); rintro e w1 ⟨rfl, hb1⟩; have HX1 := Lib.hid (HX.out.nxt hb1); obtain ⟨z0, z1, z2, z3⟩ := HX1.out.cells; rw [Nat.zero_add] at z1 z2 z3; clear hb1))
    go_ret
    exact StrG.mk HT.out HX1.out.below
  by_cases h4 : o = 4
  · subst h4
    simp [selfB] at hs
    obtain ⟨k, hk, rfl⟩ := single_nat hs.1.1
    have HX := Lib.hid B0
    obtain ⟨M, eM⟩ : ∃ M : ByteArray, (⟨(Cr.mword k).toArray⟩ : ByteArray) = M := ⟨_, rfl⟩
    have hMz : M.size ≤ 5 := by rw [← eM, ← sz_len]; exact (Cr.mword_word k hk).1
    have MK := Lib.hid (fun (W : World) => show Calls Tryz.prog 122 #[.int .i64 (k : Int)] W (fun e w' => e = .returned (.string M) ∧ Below W.heap.size W w') from eM ▸ refmarks_any k hk W)
    have HT := Lib.hid (show ((⟨#[109, 97, 114, 107]⟩ : ByteArray) ++ ⟨#[32]⟩ ++ M).data.toList = tS (.mk 4 (k : Int) m K) by rw [tS, if_neg (by decide), if_pos rfl, app_list, app_list, ← eM]; rfl)
    have OP1 := Lib.hid (show ∀ W, Calls Tryz.prog 121 #[.int .i64 4] W (fun e w' => e = .returned (.string ⟨#[109, 97, 114, 107]⟩) ∧ Below W.heap.size W w') from fun W => OP.out W)
    have s1 : ¬ 9223372036854775807 < 5 + M.size := by omega
    have s1a : 5 + M.size ≤ 9223372036854775807 := by omega
    clear B0 hs o1 o2 ho OP eM hMz hk
    go_enter Tryz.func91, Tryz.ntmps91
    go_wp2_with (first | (go_at_call 121; (with_reducible refine Calls.mono (OP1.out _) ?_); rintro e w1 ⟨rfl, hb1⟩; have HX1 := Lib.hid (HX.out.nxt hb1); obtain ⟨z0, z1, z2, z3⟩ := HX1.out.cells; rw [Nat.zero_add] at z1 z2 z3; clear hb1) | (go_at_call 122; (with_reducible refine Calls.mono (MK.out _) ?_); rintro e w2 ⟨rfl, hb2⟩; have HX2 := Lib.hid (HX1.out.nxt hb2)))
    go_ret
    exact StrG.mk HT.out HX2.out.below
  by_cases h7 : o = 7
  · subst h7
    simp [selfB] at hs
    obtain ⟨k, hk, rfl⟩ := single_nat hs.1.2
    have hn1 := hs.1.1
    obtain ⟨M, eM⟩ : ∃ M : ByteArray, (⟨(Cr.mword k).toArray⟩ : ByteArray) = M := ⟨_, rfl⟩
    have hMz : M.size ≤ 5 := by rw [← eM, ← sz_len]; exact (Cr.mword_word k hk).1
    obtain ⟨D, eD⟩ : ∃ D : ByteArray, (⟨(Lib.itoa n).toArray⟩ : ByteArray) = D := ⟨_, rfl⟩
    have hDz : D.size ≤ 2 := by rw [← eD, ← sz_len]; exact Te.itoa_le (n := n) (by omega) (by omega) (by omega)
    have MK := Lib.hid (fun (W : World) => show Calls Tryz.prog 122 #[.int .i64 (k : Int)] W (fun e w' => e = .returned (.string M) ∧ Below W.heap.size W w') from eM ▸ refmarks_any k hk W)
    have DE := Lib.hid (fun (W : World) => show Calls Tryz.prog 31 #[.int .i64 n] W (fun e w' => e = .returned (.string D) ∧ Below W.heap.size W w') from eD ▸ refdec_any n W (by omega) (by omega))
    have hT : ((⟨#[98, 101, 102, 111, 114, 101]⟩ : ByteArray) ++ ⟨#[32]⟩ ++ D ++ ⟨#[32]⟩ ++ M).data.toList = tS (.mk 7 n (k : Int) K) := by rw [tS, if_neg (by decide), if_neg (by decide), if_pos rfl, app_list, app_list, app_list, app_list, ← eM, ← eD]; simp [opW]
    obtain ⟨XS, eX⟩ : ∃ XS : ByteArray, (⟨#[98, 101, 102, 111, 114, 101]⟩ : ByteArray) ++ ⟨#[32]⟩ ++ D ++ ⟨#[32]⟩ ++ M = XS := ⟨_, rfl⟩
    rw [eX] at hT
    have HT := Lib.hid hT
    have OP1 := Lib.hid (show ∀ W, Calls Tryz.prog 121 #[.int .i64 7] W (fun e w' => e = .returned (.string ⟨#[98, 101, 102, 111, 114, 101]⟩) ∧ Below W.heap.size W w') from fun W => OP.out W)
    have KC := Lib.hid (fun (W : World) (hW : Bx w W ⟨7, n, (k : Int), p, K.length, c⟩) => show W.cell? ⟨w.heap.size, 1, none⟩ = some (.int .i64 n) ∧ W.cell? ⟨w.heap.size, 2, none⟩ = some (.int .i64 (k : Int)) from ⟨hW.cells.c1, hW.cells.c2⟩)
    have HX := Lib.hid B0
    have s2 : ¬ 9223372036854775807 < 7 + D.size := by omega
    have s2a : 7 + D.size ≤ 9223372036854775807 := by omega
    have s3 : ¬ 9223372036854775807 < 7 + D.size + 1 := by omega
    have s3a : 7 + D.size + 1 ≤ 9223372036854775807 := by omega
    have s3b : ¬ 9223372036854775807 ≤ 7 + D.size := by omega
    have s3c : 7 + D.size < 9223372036854775807 := by omega
    have s4 : ¬ 9223372036854775807 < 7 + D.size + 1 + M.size := by omega
    have s4a : 7 + D.size + 1 + M.size ≤ 9223372036854775807 := by omega
    clear B0 hs o1 o2 ho OP eM eD hMz hDz hk hn1 hT
    go_enter Tryz.func91, Tryz.ntmps91
    go_wp2_with (first | (go_at_call 121; (with_reducible refine Calls.mono (OP1.out _) ?_); rintro e w1 ⟨rfl, hb1⟩; have K1 := (HX.out.nxt hb1); obtain ⟨z0, z1, z2, z3⟩ := K1.cells; rw [Nat.zero_add] at z1 z2 z3; clear hb1) | fail)
    have K1d := K1.nxt ((Below.refl _ _).drew)
    clear z0 z1 z2 z3
    go_region_held3 (fun W => W.cell? ⟨w.heap.size, 1, none⟩ = some (.int .i64 n) ∧ W.cell? ⟨w.heap.size, 2, none⟩ = some (.int .i64 (k : Int)))
      (first | exact KC.out _ K1 | exact KC.out _ K1d | exact KC.out _ K5 | exact KC.out _ K6 | fail)
      (first
        | (go_at_call 31; (with_reducible refine Calls.mono (DE.out _) ?_); rintro e w5 ⟨rfl, hb5⟩; have K5 : Bx w w5 ⟨7, n, (k : Int), p, K.length, c⟩ := (by first | exact K1d.nxt hb5 | exact K1.nxt hb5))
        | (go_at_call 122; (with_reducible refine Calls.mono (MK.out _) ?_); rintro e w6 ⟨rfl, hb6⟩; have K6 : Bx w w6 ⟨7, n, (k : Int), p, K.length, c⟩ := K5.nxt hb6)
        | fail)
    go_wp2
    go_ret
    exact StrG.mk HT.out K6.below
  have hn1 : 0 ≤ n ∧ n ≤ 40 := by
    unfold selfB at hs
    repeat' split at hs
    all_goals first | omega | (simp at hs) | (cases hs)
    all_goals omega
  obtain ⟨D, eD⟩ : ∃ D : ByteArray, (⟨(Lib.itoa n).toArray⟩ : ByteArray) = D := ⟨_, rfl⟩
  have hDz : D.size ≤ 2 := by rw [← eD, ← sz_len]; exact Te.itoa_le (n := n) (by omega) (by omega) (by omega)
  have DE := Lib.hid (fun (W : World) => show Calls Tryz.prog 31 #[.int .i64 n] W (fun e w' => e = .returned (.string D) ∧ Below W.heap.size W w') from eD ▸ refdec_any n W (by omega) (by omega))
  obtain ⟨S, eS⟩ : ∃ S : ByteArray, (⟨(opW o).toArray⟩ : ByteArray) = S := ⟨_, rfl⟩
  have hSz : S.size ≤ 6 := by rw [← eS, ← sz_len]; exact opW_len o o1 o2
  have HT := Lib.hid (show (S ++ ⟨#[32]⟩ ++ D).data.toList = tS (.mk o n m K) by
    rw [tS, if_neg h1, if_neg h4, if_neg h7, if_neg ho.2.2, if_neg (by omega), app_list, app_list, ← eS, ← eD]; simp)
  have OP1 := Lib.hid (show ∀ W, Calls Tryz.prog 121 #[.int .i64 o] W (fun e w' => e = .returned (.string S) ∧ Below W.heap.size W w') from fun W => eS ▸ OP.out W)
  have HX := Lib.hid B0
  have hor : o = 2 ∨ o = 3 ∨ o = 5 ∨ o = 6 ∨ o = 8 := by omega
  have s5 : ¬ 9223372036854775807 < S.size + 1 := by omega
  have s5a : S.size + 1 ≤ 9223372036854775807 := by omega
  have s5b : ¬ 9223372036854775807 ≤ S.size := by omega
  have s5c : S.size < 9223372036854775807 := by omega
  have s6 : ¬ 9223372036854775807 < S.size + 1 + D.size := by omega
  have s6a : S.size + 1 + D.size ≤ 9223372036854775807 := by omega
  clear B0 o1 o2 ho hn1 h1 h4 h7 eD eS hSz hDz OP
  rcases hor with rfl | rfl | rfl | rfl | rfl
  all_goals
    go_enter Tryz.func91, Tryz.ntmps91
    go_wp2_with (first | (go_at_call 121; (with_reducible refine Calls.mono (OP1.out _) ?_); rintro e w1 ⟨rfl, hb1⟩; have HX1 := Lib.hid (HX.out.nxt hb1); obtain ⟨z0, z1, z2, z3⟩ := HX1.out.cells; rw [Nat.zero_add] at z1 z2 z3; clear hb1) | (go_at_call 31; (with_reducible refine Calls.mono (DE.out _) ?_); rintro e w2 ⟨rfl, hb2⟩; have HX2 := Lib.hid (HX1.out.nxt hb2)))
    go_ret
    exact StrG.mk HT.out HX2.out.below

end Go.Proofs.YtflcdkibjakciaaGreatDoor

namespace Go.Proofs.YtflcdkibjakciaaGreatDoor
open Go.RowKit Te

set_option maxRecDepth 100000 in
set_option maxHeartbeats 8000000 in
theorem textr_any {Q : Nat → Prop} (d : Nat) : TextRAt Q d := by
  induction d using Nat.strongRecOn with
  | _ d ih =>
  intro r t w h hf hl
  obtain ⟨o, n, m, p, l, c⟩ := r
  obtain ⟨t0, tn, tm, K⟩ := t
  obtain rfl : o = t0 := h.is.op
  obtain rfl : n = tn := h.is.num
  obtain rfl : m = tm := h.is.more
  have hat : TmsAt Q w d p K := h.at_
  have hlen : l = K.length := h.is.n
  simp only
  subst hlen
  by_cases ho : ¬ o = 9 ∧ ¬ o = 10 ∧ ¬ o = 11
  · exact textr_leaf hf ho
  have hn := hat.len
  obtain ⟨o1, o2⟩ := form_op hf
  have B0 := Bx.box w ⟨o, n, m, p, K.length, c⟩ 29
  simp only at B0
  rw [form_cons, Bool.and_eq_true] at hf
  obtain ⟨hs, hfL⟩ := hf
  have HX := Lib.hid B0
  have IH := Lib.hid ih
  have HA := Lib.hid hat
  have HFL := Lib.hid hfL
  have OP := Lib.hid (fun (W : World) => ops_any o o1 o2 W)
  by_cases h11 : o = 11
  · subst h11
    simp [selfB] at hs
    obtain ⟨⟨rfl, rfl⟩, hk⟩ := hs
    obtain ⟨k, rfl⟩ : ∃ k, K = [k] := by
      match K, hk with
      | [k], _ => exact ⟨k, rfl⟩
    have hT : tS (.mk 11 0 0 [k]) = opW 11 ++ (32 :: tS k) := by
      rw [tS, if_neg (by decide), if_neg (by decide), if_neg (by decide), if_pos rfl, tSL, tSL, List.append_nil]
    obtain ⟨e, b, off, r, rfl, rfl, hbl, hcs, hv⟩ := hat.kid (k := 0) (by simp)
    rw [Nat.zero_mul, Nat.add_zero] at hcs
    have hkl : (tS k).length + 4 ≤ 1000000 := by
      have := hl
      rw [hT, List.length_append, List.length_cons] at this
      have h2 : (opW 11).length = 3 := rfl
      omega
    obtain ⟨T, eT⟩ : ∃ T : ByteArray, (⟨(tS k).toArray⟩ : ByteArray) = T := ⟨_, rfl⟩
    have hTz : T.size = (tS k).length := by rw [← eT, ← sz_len]
    have OP1 := Lib.hid (show ∀ W, Calls Tryz.prog 121 #[.int .i64 11] W (fun e w' => e = .returned (.string ⟨#[110, 111, 116]⟩) ∧ Below W.heap.size W w') from fun W => OP.out W)
    have HC := Lib.hid hcs
    have TX := Lib.hid (fun (W : World) (hb : Below w.heap.size w W) => show Calls Tryz.prog 91 #[.agg #[.int .i64 r.op, .int .i64 r.num, .int .i64 r.more, .slice r.p r.n r.c]] W (fun e w' => e = .returned (.string T) ∧ Below W.heap.size W w') from eT ▸ IH.out e (by omega) r k W (hv.below hb) (form_mem hfL 0 (by simp)) (by omega))
    have HR := Lib.hid (show ((⟨#[110, 111, 116]⟩ : ByteArray) ++ ⟨#[32]⟩ ++ T).data.toList = tS (.mk 11 0 0 [k]) by
      rw [hT, app_list, app_list, ← eT]; simp [opW])
    have s1 : ¬ 9223372036854775807 < 4 + T.size := by omega
    have s1a : 4 + T.size ≤ 9223372036854775807 := by omega
    clear h hl ih hat hfL B0 hv hk OP o1 o2 hT eT hTz hkl hcs ho
    go_enter Tryz.func91, Tryz.ntmps91
    go_wp2_with (first
      | (go_at_call 121; (with_reducible refine Calls.mono (OP1.out _) ?_); rintro e w1 ⟨rfl, hb1⟩; have HX1 := Lib.hid (HX.out.nxt hb1); obtain ⟨z0, z1, z2, z3⟩ := HX1.out.cells; rw [Nat.zero_add] at z1 z2 z3; obtain ⟨c0, c1, c2, c3⟩ := HC.out; have d0 := (HX1.out.below.cell (p := ⟨b, off, none⟩) hbl).trans c0; have d1 := (HX1.out.below.cell (p := ⟨b, off + 1, none⟩) hbl).trans c1; have d2 := (HX1.out.below.cell (p := ⟨b, off + 2, none⟩) hbl).trans c2; have d3 := (HX1.out.below.cell (p := ⟨b, off + 3, none⟩) hbl).trans c3; have TX1 := Lib.hid (TX.out _ HX1.out.below); clear hb1 c0 c1 c2 c3)
      | (go_at_call 91; (with_reducible refine Calls.mono TX1.out ?_); rintro e w2 ⟨rfl, hb2⟩; have HX2 := Lib.hid (HX1.out.nxt hb2))
      | fail)
    go_ret
    exact StrG.mk HR.out HX2.out.below
  · have h9 : o = 9 ∨ o = 10 := by omega
    clear ho h11
    rcases h9 with h9 | h10
    · obtain rfl := h9
      have hT : tS (.mk 9 n m K) = opW 9 ++ ([32, 40] ++ (tSL K ++ [32, 41])) := by
        rw [tS, if_neg (by decide), if_neg (by decide), if_neg (by decide), if_neg (by decide), if_pos (by decide)]
      have hkl : (tSL K).length + 5 ≤ 1000000 := by
        have := hl
        rw [hT] at this
        simp only [List.length_append, List.length_cons, List.length_nil] at this
        have h2 : (opW 9).length ≤ 3 ∧ 2 ≤ (opW 9).length := by decide
        omega
      have HT := Lib.hid hT
      have OP1 := Lib.hid (show ∀ W, Calls Tryz.prog 121 #[.int .i64 9] W (fun e w' => e = .returned (.string ⟨#[97, 110, 100]⟩) ∧ Below W.heap.size W w') from fun W => OP.out W)
      clear h hl ih hat hfL B0 hs OP o1 o2 hT
      go_enter Tryz.func91, Tryz.ntmps91
      go_wp2_with (first | (go_at_call 121; (with_reducible refine Calls.mono (OP1.out _) ?_); rintro e w1 ⟨rfl, hb1⟩; have HX1 := Lib.hid (HX.out.nxt hb1); obtain ⟨z0, z1, z2, z3⟩ := HX1.out.cells; rw [Nat.zero_add] at z1 z2 z3; clear hb1) | fail)
      have HB1 := Lib.hid HX1.out.below
      clear z0 z1 z2 z3
      go_loopw [3, 53] (fun v i wr => ∃ (j : Nat) (X : ByteArray), j ≤ K.length ∧ i = .int .i64 j ∧ v = .string X ∧ X.data.toList = opW 9 ++ ([32, 40] ++ tSL (K.take j)) ∧ Below w.heap.size w wr) (fun _ i _ => K.length - (intOf i).toNat)
      case atStart => exact ⟨0, _, Nat.zero_le _, rfl, rfl, by rw [List.take_zero, tSL]; decide +kernel, HB1.out⟩
      case round =>
        obtain ⟨wo, rfl⟩ : ∃ wo : World, wo = wr := ⟨_, rfl⟩
        obtain ⟨j, X, hj, rfl, rfl, hX, hb⟩ := hrel
        have HXX := Lib.hid hX
        have HB := Lib.hid hb
        have hj0 : (0 : Int) ≤ (j : Int) := Int.natCast_nonneg _
        have htk := tSL_take K j
        have hXz : X.size = (opW 9).length + (2 + (tSL (K.take j)).length) := by
          rw [← sz_len, hX, List.length_append, List.length_append]; rfl
        have hop : (opW 9).length ≤ 3 := by decide
        by_cases hlt : j < K.length
        · have hj1 : (j : Int) < (K.length : Int) := by omega
          obtain ⟨e, b, off, k, rfl, rfl, hbl, hcs, hv⟩ := (HA.out.below hb).kid hlt
          obtain ⟨c0, c1, c2, c3⟩ := hcs
          have hlj := tSL_take K (j + 1)
          have hsu := tSL_succ K j hlt
          have HS := Lib.hid hsu
          rw [hsu, List.length_append, List.length_cons] at hlj
          obtain ⟨T, eT⟩ : ∃ T : ByteArray, (⟨(tS K[j]).toArray⟩ : ByteArray) = T := ⟨_, rfl⟩
          have hTz : T.size = (tS K[j]).length := by rw [← eT, ← sz_len]
          have HK := Lib.hid (show Calls Tryz.prog 91 #[.agg #[.int .i64 k.op, .int .i64 k.num, .int .i64 k.more, .slice k.p k.n k.c]] (wo.alloc (.cells #[.int .i64 k.op, .int .i64 k.num, .int .i64 k.more, .slice k.p k.n k.c] 29)) (fun e w' => e = .returned (.string T) ∧ Below (wo.alloc (.cells #[.int .i64 k.op, .int .i64 k.num, .int .i64 k.more, .slice k.p k.n k.c] 29)).heap.size (wo.alloc (.cells #[.int .i64 k.op, .int .i64 k.num, .int .i64 k.more, .slice k.p k.n k.c] 29)) w') from eT ▸ IH.out e (by omega) k K[j] _ (hv.below ((Below.refl _ _).alloc (Nat.le_refl _) (.cells #[.int .i64 k.op, .int .i64 k.num, .int .i64 k.more, .slice k.p k.n k.c] 29))) (form_mem HFL.out j hlt) (by omega))
          have HB1 := Lib.hid (balloc (Nat.le_refl _) hb (.cells #[.int .i64 k.op, .int .i64 k.num, .int .i64 k.more, .slice k.p k.n k.c] 29))
          have HR := Lib.hid (show (X ++ ((⟨#[32]⟩ : ByteArray) ++ T)).data.toList = opW 9 ++ ([32, 40] ++ tSL (K.take (j + 1))) by
            rw [app_list, app_list, hX, hsu, ← eT]; simp)
          have s1 : ¬ 9223372036854775807 < 1 + T.size := by omega
          have s1a : 1 + T.size ≤ 9223372036854775807 := by omega
          have s2 : ¬ 9223372036854775807 < X.size + (1 + T.size) := by omega
          have s2a : X.size + (1 + T.size) ≤ 9223372036854775807 := by omega
          clear hv hb hX eT hTz hlj hsu htk hXz hop
          go_wp2_with (first
            | (go_at_call 91; (with_reducible refine Calls.mono HK.out ?_); rintro e w1 ⟨rfl, hb1⟩)
            | fail)
          go_roundw
          case rel => exact ⟨j + 1, _, by omega, by go_num, rfl, HR.out, bstep (Nat.le_refl _) HB1.out hb1⟩
          case measure => simp [intOf]; omega
        · obtain rfl : j = K.length := by omega
          rw [List.take_length] at HXX
          have HR := Lib.hid (show (X ++ (⟨#[32, 41]⟩ : ByteArray)).data.toList = tS (.mk 9 n m K) by
            rw [app_list, HXX.out, HT.out]; simp)
          have s2 : ¬ 9223372036854775807 < X.size + 2 := by omega
          have s2a : X.size + 2 ≤ 9223372036854775807 := by omega
          clear hb hX htk hXz hop
          go_wp2
          go_ret
          exact StrG.mk HR.out HB.out
    · obtain rfl := h10
      have hT : tS (.mk 10 n m K) = opW 10 ++ ([32, 40] ++ (tSL K ++ [32, 41])) := by
        rw [tS, if_neg (by decide), if_neg (by decide), if_neg (by decide), if_neg (by decide), if_pos (by decide)]
      have hkl : (tSL K).length + 5 ≤ 1000000 := by
        have := hl
        rw [hT] at this
        simp only [List.length_append, List.length_cons, List.length_nil] at this
        have h2 : (opW 10).length ≤ 3 ∧ 2 ≤ (opW 10).length := by decide
        omega
      have HT := Lib.hid hT
      have OP1 := Lib.hid (show ∀ W, Calls Tryz.prog 121 #[.int .i64 10] W (fun e w' => e = .returned (.string ⟨#[111, 114]⟩) ∧ Below W.heap.size W w') from fun W => OP.out W)
      clear h hl ih hat hfL B0 hs OP o1 o2 hT
      go_enter Tryz.func91, Tryz.ntmps91
      go_wp2_with (first | (go_at_call 121; (with_reducible refine Calls.mono (OP1.out _) ?_); rintro e w1 ⟨rfl, hb1⟩; have HX1 := Lib.hid (HX.out.nxt hb1); obtain ⟨z0, z1, z2, z3⟩ := HX1.out.cells; rw [Nat.zero_add] at z1 z2 z3; clear hb1) | fail)
      have HB1 := Lib.hid HX1.out.below
      clear z0 z1 z2 z3
      go_loopw [3, 53] (fun v i wr => ∃ (j : Nat) (X : ByteArray), j ≤ K.length ∧ i = .int .i64 j ∧ v = .string X ∧ X.data.toList = opW 10 ++ ([32, 40] ++ tSL (K.take j)) ∧ Below w.heap.size w wr) (fun _ i _ => K.length - (intOf i).toNat)
      case atStart => exact ⟨0, _, Nat.zero_le _, rfl, rfl, by rw [List.take_zero, tSL]; decide +kernel, HB1.out⟩
      case round =>
        obtain ⟨wo, rfl⟩ : ∃ wo : World, wo = wr := ⟨_, rfl⟩
        obtain ⟨j, X, hj, rfl, rfl, hX, hb⟩ := hrel
        have HXX := Lib.hid hX
        have HB := Lib.hid hb
        have hj0 : (0 : Int) ≤ (j : Int) := Int.natCast_nonneg _
        have htk := tSL_take K j
        have hXz : X.size = (opW 10).length + (2 + (tSL (K.take j)).length) := by
          rw [← sz_len, hX, List.length_append, List.length_append]; rfl
        have hop : (opW 10).length ≤ 3 := by decide
        by_cases hlt : j < K.length
        · have hj1 : (j : Int) < (K.length : Int) := by omega
          obtain ⟨e, b, off, k, rfl, rfl, hbl, hcs, hv⟩ := (HA.out.below hb).kid hlt
          obtain ⟨c0, c1, c2, c3⟩ := hcs
          have hlj := tSL_take K (j + 1)
          have hsu := tSL_succ K j hlt
          have HS := Lib.hid hsu
          rw [hsu, List.length_append, List.length_cons] at hlj
          obtain ⟨T, eT⟩ : ∃ T : ByteArray, (⟨(tS K[j]).toArray⟩ : ByteArray) = T := ⟨_, rfl⟩
          have hTz : T.size = (tS K[j]).length := by rw [← eT, ← sz_len]
          have HK := Lib.hid (show Calls Tryz.prog 91 #[.agg #[.int .i64 k.op, .int .i64 k.num, .int .i64 k.more, .slice k.p k.n k.c]] (wo.alloc (.cells #[.int .i64 k.op, .int .i64 k.num, .int .i64 k.more, .slice k.p k.n k.c] 29)) (fun e w' => e = .returned (.string T) ∧ Below (wo.alloc (.cells #[.int .i64 k.op, .int .i64 k.num, .int .i64 k.more, .slice k.p k.n k.c] 29)).heap.size (wo.alloc (.cells #[.int .i64 k.op, .int .i64 k.num, .int .i64 k.more, .slice k.p k.n k.c] 29)) w') from eT ▸ IH.out e (by omega) k K[j] _ (hv.below ((Below.refl _ _).alloc (Nat.le_refl _) (.cells #[.int .i64 k.op, .int .i64 k.num, .int .i64 k.more, .slice k.p k.n k.c] 29))) (form_mem HFL.out j hlt) (by omega))
          have HB1 := Lib.hid (balloc (Nat.le_refl _) hb (.cells #[.int .i64 k.op, .int .i64 k.num, .int .i64 k.more, .slice k.p k.n k.c] 29))
          have HR := Lib.hid (show (X ++ ((⟨#[32]⟩ : ByteArray) ++ T)).data.toList = opW 10 ++ ([32, 40] ++ tSL (K.take (j + 1))) by
            rw [app_list, app_list, hX, hsu, ← eT]; simp)
          have s1 : ¬ 9223372036854775807 < 1 + T.size := by omega
          have s1a : 1 + T.size ≤ 9223372036854775807 := by omega
          have s2 : ¬ 9223372036854775807 < X.size + (1 + T.size) := by omega
          have s2a : X.size + (1 + T.size) ≤ 9223372036854775807 := by omega
          clear hv hb hX eT hTz hlj hsu htk hXz hop
          go_wp2_with (first
            | (go_at_call 91; (with_reducible refine Calls.mono HK.out ?_); rintro e w1 ⟨rfl, hb1⟩)
            | fail)
          go_roundw
          case rel => exact ⟨j + 1, _, by omega, by go_num, rfl, HR.out, bstep (Nat.le_refl _) HB1.out hb1⟩
          case measure => simp [intOf]; omega
        · obtain rfl : j = K.length := by omega
          rw [List.take_length] at HXX
          have HR := Lib.hid (show (X ++ (⟨#[32, 41]⟩ : ByteArray)).data.toList = tS (.mk 10 n m K) by
            rw [app_list, HXX.out, HT.out]; simp)
          have s2 : ¬ 9223372036854775807 < X.size + 2 := by omega
          have s2a : X.size + 2 ≤ 9223372036854775807 := by omega
          clear hb hX htk hXz hop
          go_wp2
          go_ret
          exact StrG.mk HR.out HB.out

/-- The words of a right term. -/
def WordsG (t : Tm) (w : World) (e : Ending) (w' : World) : Prop := ∃ p c, e = .returned (.tuple #[.slice p (textW t).length c, .int .i64 0]) ∧ OwnR SB w' 9 w.heap.size (.slice p (textW t).length c) ((textW t).map bs) ∧ Below w.heap.size w w'

theorem WordsG.mk {w w1 w2 : World} {t : Tm} {p : Option Addr} {n c : Nat} (hn : n = (textW t).length) (h : OwnR SB w2 9 w1.heap.size (.slice p ((textW t).map bs).length c) ((textW t).map bs)) (hb : Below w.heap.size w w1) (hb2 : Below w1.heap.size w1 w2) :
    WordsG t w (.returned (.tuple #[.slice p n c, .int .i64 0])) w2 := by
  subst hn
  rw [List.length_map] at h
  exact ⟨p, c, rfl, h.mono hb.size, bstep (Nat.le_refl _) hb hb2⟩

set_option maxHeartbeats 2000000 in
theorem words16_any {Q : Nat → Prop} (d : Nat) (r : RT) (t : Tm) (w : World) (h : TV Q w d r t) (h0 : chkT t = 0) (hE : Env w) :
    Calls Tryz.prog 64 #[.agg #[.int .i64 r.op, .int .i64 r.num, .int .i64 r.more, .slice r.p r.n r.c]] w (WordsG t w) := by
  obtain ⟨h1, h2, h3⟩ := chkT_ok h0
  have hl := textW_len h3
  have B0 := Bx.box w r 29
  have CK := Lib.hid (show Calls Tryz.prog 60 #[.agg #[.int .i64 r.op, .int .i64 r.num, .int .i64 r.more, .slice r.p r.n r.c]] (w.alloc (.cells #[.int .i64 r.op, .int .i64 r.num, .int .i64 r.more, .slice r.p r.n r.c] 29)) (IntG 0 (w.alloc (.cells #[.int .i64 r.op, .int .i64 r.num, .int .i64 r.more, .slice r.p r.n r.c] 29))) from h0 ▸ check16_any d r t _ (h.below B0.below))
  have TX := Lib.hid (fun (W : World) (hW : Bx w W r) => text_any (Q := Q) d r t W (h.below hW.below) h3 (by omega) (hE.below hW.below))
  have HX := Lib.hid B0
  clear h hE B0 h0 h1 h2 h3 hl
  go_enter Tryz.func64, Tryz.ntmps64
  go_wp2_with (first
    | (go_at_call 60; (with_reducible refine Calls.mono CK.out ?_); rintro e w1 ⟨rfl, hb1⟩; have HX1 := Lib.hid (HX.out.nxt hb1); obtain ⟨z0, z1, z2, z3⟩ := HX1.out.cells; rw [Nat.zero_add] at z1 z2 z3; have TX1 := Lib.hid (TX.out _ HX1.out); clear hb1)
    | (go_at_call 101; (with_reducible refine Calls.mono TX1.out ?_); rintro e w2 ⟨q, cc, rfl, hO, hb2⟩; have HO := Lib.hid hO; have HB2 := Lib.hid hb2; clear hO hb2)
    | fail)
  go_ret2
  exact WordsG.mk (by simp) HO.out HX1.out.below HB2.out

def PrintTG (t : Tm) (w : World) (e : Ending) (w' : World) : Prop := e = .returned (.tuple #[.string ⟨(tS t).toArray⟩, .int .i64 0]) ∧ Below w.heap.size w w'

set_option maxHeartbeats 2000000 in
theorem refprint16_any {Q : Nat → Prop} (d : Nat) (r : RT) (t : Tm) (w : World) (h : TV Q w d r t) (h0 : chkT t = 0) :
    Calls Tryz.prog 49 #[.agg #[.int .i64 r.op, .int .i64 r.num, .int .i64 r.more, .slice r.p r.n r.c]] w (PrintTG t w) := by
  obtain ⟨h1, h2, h3⟩ := chkT_ok h0
  have hl := tS_len t h3
  have B0 := Bx.box w r 29
  have CK := Lib.hid (show Calls Tryz.prog 89 #[.agg #[.int .i64 r.op, .int .i64 r.num, .int .i64 r.more, .slice r.p r.n r.c]] (w.alloc (.cells #[.int .i64 r.op, .int .i64 r.num, .int .i64 r.more, .slice r.p r.n r.c] 29)) (IntG 0 (w.alloc (.cells #[.int .i64 r.op, .int .i64 r.num, .int .i64 r.more, .slice r.p r.n r.c] 29))) from h0 ▸ refcheck16_any d r t _ (h.below B0.below) (by omega))
  have TX := Lib.hid (fun (W : World) (hW : Bx w W r) => textr_any (Q := Q) d r t W (h.below hW.below) h3 (by omega))
  have HX := Lib.hid B0
  clear h B0 h0 h1 h2 h3 hl
  go_enter Tryz.func49, Tryz.ntmps49
  go_wp2_with (first
    | (go_at_call 89; (with_reducible refine Calls.mono CK.out ?_); rintro e w1 ⟨rfl, hb1⟩; have HX1 := Lib.hid (HX.out.nxt hb1); obtain ⟨z0, z1, z2, z3⟩ := HX1.out.cells; rw [Nat.zero_add] at z1 z2 z3; have TX1 := Lib.hid (TX.out _ HX1.out); clear hb1)
    | (go_at_call 91; (with_reducible refine Calls.mono TX1.out ?_); rintro e w2 ⟨rfl, hb2⟩)
    | fail)
  go_ret2
  exact ⟨rfl, bstep (Nat.le_refl _) HX1.out.below hb2⟩

end Go.Proofs.YtflcdkibjakciaaGreatDoor
