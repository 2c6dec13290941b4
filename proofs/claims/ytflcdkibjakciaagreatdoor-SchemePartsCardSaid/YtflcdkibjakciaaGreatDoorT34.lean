/-
  THE WALK over (*scheme.reader).head. Printed by gent34.py.
-/
import Derived.Test.YtflcdkibjakciaaGreatDoorM25
namespace Go.Proofs.YtflcdkibjakciaaGreatDoor
open Go.RowKit Te Sc

/-- The scheme of a first line. -/
def headP (ws : List (List UInt8)) : Option Sch := match ws with | x :: r => if x = wScheme then headR r else none | [] => none

def HeadG (t : Nat) (o : Option Sch) (out : List Sch) (w : World) : Ending → World → Prop :=
  match o with
  | some s => StG 86 t (out ++ [s]) (-1) w
  | none => StE t 4 w

theorem headP_word {x : List UInt8} {r : List (List UInt8)} (h : x ≠ wScheme) : headP (x :: r) = none := by unfold headP; simp only; rw [if_neg h]
theorem headP_len {ws : List (List UInt8)} (h4 : ws.length ≠ 4) (h5 : ws.length ≠ 5) : headP ws = none := by
  unfold headP
  split
  · rename_i x r
    split
    · unfold headR
      split
      · rename_i a nm b r2
        rw [if_neg]
        rintro (rfl | rfl)
        · exact h4 rfl
        · exact h5 rfl
      · rfl
    · rfl
  · rfl
theorem headP_ent {x a nm b e : List UInt8} (h : e ≠ wEnt) : headP [x, a, nm, b, e] = none := by
  unfold headP headR
  simp only
  split
  · rw [if_neg]
    rintro (h1 | h1)
    · cases h1
    · injection h1 with h1; exact h h1
  · rfl

theorem headP_go {a nm b : List UInt8} {r : List (List UInt8)} (h : r = [] ∨ r = [wEnt]) : headP (wScheme :: a :: nm :: b :: r) = if Wo.nameB nm = true ∧ Wo.numB a 0 15 = true ∧ Wo.numB b 0 268435456 = true then some (schF (Wo.numV a 0 15) ⟨nm.toArray⟩ (Wo.numV b 0 268435456) (decide (r = [wEnt]))) else none := by
  unfold headP headR
  simp only
  rw [if_pos trivial, if_pos h, num0_eq, num0_eq]
  by_cases h1 : Wo.nameB nm = true
  · rw [if_pos h1]
    cases h2 : Wo.numB a 0 15 <;> cases h3 : Wo.numB b 0 268435456 <;> simp [h1, schF]
  · rw [if_neg h1, if_neg (fun h => h1 h.1)]

theorem four_of {ws : List ByteArray} (h : ws.length = 4) : ∃ a b c d, ws = [a, b, c, d] := by
  match ws, h with
  | [a, b, c, d], _ => exact ⟨a, b, c, d, rfl⟩
theorem five_of {ws : List ByteArray} (h : ws.length = 5) : ∃ a b c d e, ws = [a, b, c, d, e] := by
  match ws, h with
  | [a, b, c, d, e], _ => exact ⟨a, b, c, d, e, rfl⟩

theorem lit_eq (a : ByteArray) (l : List UInt8) : (a.toList == l) = decide (a.data.toList = l) := by
  rw [ByteArray.toList_eq, Bool.eq_iff_iff, beq_iff_eq, decide_eq_true_eq]

theorem StE.nil (t : Nat) (er : Int) (w w' : World) (hb : Below t w w') : StE t er w (.returned (.tuple #[.nilFunc, .int .i64 er])) w' := ⟨⟨_, rfl⟩, hb⟩

/-- The new row behind the others. -/
theorem one_sch (W : World) (r : RSx) : Recs SSc (W.alloc (.cells (sCells r).toArray 32)) (some ⟨W.heap.size, 0, none⟩) [r] := by
  have := Recs.lit (S := SSc) W 32 [r] (by show 1 ≤ _; unfold maxLen; omega)
  have e : SSc.flat [r] = sCells r := Shape.flat_single SSc r
  rw [e] at this
  exact this

set_option maxRecDepth 100000 in
set_option maxHeartbeats 8000000 in
theorem head4_any (t : Nat) (out : List Sch) (last : Int) (q : Option Addr) (x a nm b : ByteArray) (c : Nat) (w : World) (h : Recs SB w q [x, a, nm, b]) (hz : ∀ y ∈ [x, a, nm, b], y.size ≤ 16384) (hE : Env w) (hR : RdrAt w t out last) (ho : out.length ≤ 1000) :
    Calls Tryz.prog 43 #[.pointer (some ⟨t, 0, none⟩), .slice q 4 c] w (HeadG t (headP (ll [x, a, nm, b])) out w) := by
  have hl := h.len
  have htl := hR.lt
  obtain ⟨B, O, rfl, hBl, g0⟩ := h.word (j := 0) (by simp)
  obtain ⟨B1, O1, e1, -, g1⟩ := h.word (j := 1) (by simp)
  cases e1
  obtain ⟨B2, O2, e2, -, g2⟩ := h.word (j := 2) (by simp)
  cases e2
  obtain ⟨B3, O3, e3, -, g3⟩ := h.word (j := 3) (by simp)
  cases e3
  simp only [List.getElem_cons_zero, List.getElem_cons_succ, Nat.add_zero] at g0 g1 g2 g3
  have hnz := hz nm (by simp)
  have haz := hz a (by simp)
  have hbz := hz b (by simp)
  show Calls _ _ _ _ (HeadG t (headP [x.data.toList, a.data.toList, nm.data.toList, b.data.toList]) out w)
  by_cases hx : x.data.toList = wScheme
  rotate_left
  · rw [headP_word hx]
    show Calls _ _ _ _ (StE t 4 w)
    have ez : (x.toList == [115, 99, 104, 101, 109, 101]) = false := by rw [lit_eq]; exact decide_eq_false hx
    clear h hE hR hz hx
    go_enter Tryz.func43, Tryz.ntmps43
    go_wp2
    go_ret2
    exact StE.nil _ _ _ _ (Below.refl _ _)
  have ez : (x.toList == [115, 99, 104, 101, 109, 101]) = true := by rw [lit_eq]; exact decide_eq_true hx
  rw [hx]
  rw [headP_go (.inl rfl)]
  have NM := Lib.hid (show ∀ W, Calls Tryz.prog 59 #[.string nm] W (fun e w' => e = .returned (.bool (Wo.nameB nm.data.toList)) ∧ W = w') from fun W => name_any nm W (by omega))
  have NU1 := Lib.hid (show Calls Tryz.prog 84 #[.string a, .int .i64 0, .int .i64 15] w (fun e w' => e = .returned (.tuple #[.int .i64 (Wo.numV a.data.toList 0 15), .bool (Wo.numB a.data.toList 0 15)]) ∧ Below w.heap.size w w') from number_any a 0 15 w hE (by omega))
  have NU2 := Lib.hid (fun (W : World) (hW : Below w.heap.size w W) => show Calls Tryz.prog 85 #[.string b] W (fun e w' => e = .returned (.tuple #[.int .i64 (Wo.numV b.data.toList 0 268435456), .bool (Wo.numB b.data.toList 0 268435456)]) ∧ Below W.heap.size W w') from number17_any b W (hE.below hW) (by omega))
  obtain ⟨nb, enb⟩ : ∃ z, Wo.nameB nm.data.toList = z := ⟨_, rfl⟩
  obtain ⟨k1, ek1⟩ : ∃ z, Wo.numB a.data.toList 0 15 = z := ⟨_, rfl⟩
  obtain ⟨k2, ek2⟩ : ∃ z, Wo.numB b.data.toList 0 268435456 = z := ⟨_, rfl⟩
  obtain ⟨v1, ev1⟩ : ∃ z, Wo.numV a.data.toList 0 15 = z := ⟨_, rfl⟩
  obtain ⟨v2, ev2⟩ : ∃ z, Wo.numV b.data.toList 0 268435456 = z := ⟨_, rfl⟩
  rw [enb] at NM
  rw [ek1, ev1] at NU1
  rw [ek2, ev2] at NU2
  rw [enb, ek1, ek2, ev1, ev2]
  have HRD := Lib.hid hR
  clear h hE hz hx enb ek1 ek2 ev1 ev2 hR
  cases nb
  · rw [if_neg (by simp)]
    show Calls _ _ _ _ (StE t 4 w)
    go_enter Tryz.func43, Tryz.ntmps43
    go_wp2_with (first | (go_at_call 59; (with_reducible refine Calls.mono (NM.out _) ?_); rintro e w1 ⟨rfl, rfl⟩))
    go_ret2
    exact StE.nil _ _ _ _ (Below.refl _ _)
  cases k1
  · rw [if_neg (by simp)]
    show Calls _ _ _ _ (StE t 4 w)
    go_enter Tryz.func43, Tryz.ntmps43
    go_wp2_with (first | (go_at_call 59; (with_reducible refine Calls.mono (NM.out _) ?_); rintro e w1 ⟨rfl, rfl⟩) | (go_at_call 84; (with_reducible refine Calls.mono NU1.out ?_); rintro e w2 ⟨rfl, hb2⟩; have k3c := (hb2.cell (p := ⟨B, O + 3, none⟩) hBl).trans g3; have k2c := (hb2.cell (p := ⟨B, O + 2, none⟩) hBl).trans g2; have NV2 := Lib.hid (NU2.out _ hb2); have HB2 := Lib.hid hb2; have hBl2 := Nat.lt_of_lt_of_le hBl hb2.size; clear hb2) | (go_at_call 85; (with_reducible refine Calls.mono NV2.out ?_); rintro e w3 ⟨rfl, hb3⟩; have m2c := (hb3.cell (p := ⟨B, O + 2, none⟩) hBl2).trans k2c; have HB3 := Lib.hid (bstep (Nat.le_refl _) HB2.out hb3); clear hb3))
    go_ret2
    exact StE.nil _ _ _ _ (HB3.out.mono (Nat.le_of_lt htl))
  cases k2
  · rw [if_neg (by simp)]
    show Calls _ _ _ _ (StE t 4 w)
    go_enter Tryz.func43, Tryz.ntmps43
    go_wp2_with (first | (go_at_call 59; (with_reducible refine Calls.mono (NM.out _) ?_); rintro e w1 ⟨rfl, rfl⟩) | (go_at_call 84; (with_reducible refine Calls.mono NU1.out ?_); rintro e w2 ⟨rfl, hb2⟩; have k3c := (hb2.cell (p := ⟨B, O + 3, none⟩) hBl).trans g3; have k2c := (hb2.cell (p := ⟨B, O + 2, none⟩) hBl).trans g2; have NV2 := Lib.hid (NU2.out _ hb2); have HB2 := Lib.hid hb2; have hBl2 := Nat.lt_of_lt_of_le hBl hb2.size; clear hb2) | (go_at_call 85; (with_reducible refine Calls.mono NV2.out ?_); rintro e w3 ⟨rfl, hb3⟩; have m2c := (hb3.cell (p := ⟨B, O + 2, none⟩) hBl2).trans k2c; have HB3 := Lib.hid (bstep (Nat.le_refl _) HB2.out hb3); clear hb3))
    go_ret2
    exact StE.nil _ _ _ _ (HB3.out.mono (Nat.le_of_lt htl))
  rw [if_pos ⟨rfl, rfl, rfl⟩]
  show Calls _ _ _ _ (StG 86 t (out ++ [schF v1 ⟨nm.data.toList.toArray⟩ v2 (decide (([] : List (List UInt8)) = [wEnt]))]) (-1) w)
  go_enter Tryz.func43, Tryz.ntmps43
  go_wp2_with (first | (go_at_call 59; (with_reducible refine Calls.mono (NM.out _) ?_); rintro e w1 ⟨rfl, rfl⟩) | (go_at_call 84; (with_reducible refine Calls.mono NU1.out ?_); rintro e w2 ⟨rfl, hb2⟩; have k3c := (hb2.cell (p := ⟨B, O + 3, none⟩) hBl).trans g3; have k2c := (hb2.cell (p := ⟨B, O + 2, none⟩) hBl).trans g2; have NV2 := Lib.hid (NU2.out _ hb2); have HB2 := Lib.hid hb2; have hBl2 := Nat.lt_of_lt_of_le hBl hb2.size; clear hb2) | (go_at_call 85; (with_reducible refine Calls.mono NV2.out ?_); rintro e w3 ⟨rfl, hb3⟩; have m2c := (hb3.cell (p := ⟨B, O + 2, none⟩) hBl2).trans k2c; have HB3 := Lib.hid (bstep (Nat.le_refl _) HB2.out hb3); clear hb3))
  have hR3 := HRD.out.below HB3.out
  have HB3t := Lib.hid (HB3.out.mono (Nat.le_of_lt htl))
  have ht3 := hR3.lt
  obtain ⟨⟨v, c0, hbld⟩, c1, hf, -⟩ := hR3
  have f0 := hf 0
  have f1 := hf 1
  have HF := Lib.hid hf
  obtain ⟨R, hRl, hOR, hBR⟩ := hbld.rows
  obtain ⟨p5, cc5, rfl, -, -, -, -, -⟩ := hOR.cut hRl
  have HBR := Lib.hid hBR
  have HOR := Lib.hid hOR
  have hol0 : 0 ≤ (out.length : Int) := Int.natCast_nonneg _
  clear hf hbld hOR hBR g0 g1 g2 g3 k3c k2c hBl hBl2
  have hty : t < w3.heap.size := ht3
  have hA5 : Below w3.heap.size w3 ((w3.alloc (.cells (sCells (rowF v1 nm v2 false)).toArray 32)).drew) := ((Below.refl _ _).alloc (Nat.le_refl _) _).drew
  have HA5 := Lib.hid hA5
  have SRC := Lib.hid ((one_sch w3 (rowF v1 nm v2 false)).drew)
  have hRl2 : R.length ≤ 1000 := by omega
  clear hA5
  go_region_law ((refine OwnR.stepAp el_sch (by rfl) (.tmp 61) (.tmp 71) (by rfl) (t + 1) (.slice p5 out.length cc5) R [rowF v1 nm v2 false] (some ⟨w3.heap.size, 0, none⟩) 1 1 rfl (HOR.out.below HA5.out) SRC.out (fun h => by cases h) (by rfl) (by rfl) (Nat.le_trans hty HA5.out.size) (by omega) (by decide) ?_; intro v7 w7 hO7 hap7; obtain ⟨p7, cc7, rfl, -⟩ := hO7.cut (show (R ++ [rowF v1 nm v2 false]).length = out.length + 1 by rw [List.length_append, hRl]; rfl); have s0 := (hap7.below.cell (p := ⟨t, 0, none⟩) (Nat.lt_succ_self t)).trans ((HA5.out.cell (p := ⟨t, 0, none⟩) hty).trans c0); have z0 := (hap7.below.frozen (p := ⟨t, 0, none⟩) (Nat.lt_succ_self t)).trans ((HA5.out.frozen (p := ⟨t, 0, none⟩) hty).trans f0)))
  all_goals
    have s1 := (hap7.below.cell (p := ⟨t, 1, none⟩) (Nat.lt_succ_self t)).trans ((HA5.out.cell (p := ⟨t, 1, none⟩) hty).trans c1)
    have z1 := (hap7.below.frozen (p := ⟨t, 1, none⟩) (Nat.lt_succ_self t)).trans ((HA5.out.frozen (p := ⟨t, 1, none⟩) hty).trans f1)
    have zf := fun i => (hap7.below.frozen (p := ⟨t, i, none⟩) (Nat.lt_succ_self t)).trans ((HA5.out.frozen (p := ⟨t, i, none⟩) hty).trans (HF.out i))
    have FIN := Lib.hid (RdrAt.stored (out := out ++ [schF v1 nm v2 false]) (.inr ⟨out, _, rfl, HBR.out.push HA5.out (Nat.le_refl _) hO7 hap7⟩) s0 s1 zf (-1))
    have FB := Lib.hid (show Below t w ((w7.setCell ⟨t, 0, none⟩ (.slice p7 (out.length + 1) cc7)).setCell ⟨t, 1, none⟩ (.int .i64 (-1))) from ((HB3t.out.trans (HA5.out.mono (Nat.le_of_lt hty))).trans (hap7.below.mono (Nat.le_succ t)) |>.setCell (Nat.le_refl t) _).setCell (Nat.le_refl t) _)
    have ES : schF v1 ⟨nm.data.toList.toArray⟩ v2 (decide (([] : List (List UInt8)) = [wEnt])) = schF v1 nm v2 false := by simp
    clear hO7 hap7 zf
    go_wp2
    go_ret2
    exact ⟨rfl, ES ▸ FIN.out, FB.out⟩

set_option maxRecDepth 100000 in
set_option maxHeartbeats 8000000 in
theorem head5_any (t : Nat) (out : List Sch) (last : Int) (q : Option Addr) (x a nm b en : ByteArray) (c : Nat) (w : World) (h : Recs SB w q [x, a, nm, b, en]) (hz : ∀ y ∈ [x, a, nm, b, en], y.size ≤ 16384) (hE : Env w) (hR : RdrAt w t out last) (ho : out.length ≤ 1000) :
    Calls Tryz.prog 43 #[.pointer (some ⟨t, 0, none⟩), .slice q 5 c] w (HeadG t (headP (ll [x, a, nm, b, en])) out w) := by
  have hl := h.len
  have htl := hR.lt
  obtain ⟨B, O, rfl, hBl, g0⟩ := h.word (j := 0) (by simp)
  obtain ⟨B1, O1, e1, -, g1⟩ := h.word (j := 1) (by simp)
  cases e1
  obtain ⟨B2, O2, e2, -, g2⟩ := h.word (j := 2) (by simp)
  cases e2
  obtain ⟨B3, O3, e3, -, g3⟩ := h.word (j := 3) (by simp)
  cases e3
  obtain ⟨B4, O4, e4, -, g4⟩ := h.word (j := 4) (by simp)
  cases e4
  simp only [List.getElem_cons_zero, List.getElem_cons_succ, Nat.add_zero] at g0 g1 g2 g3 g4
  have hnz := hz nm (by simp)
  have haz := hz a (by simp)
  have hbz := hz b (by simp)
  show Calls _ _ _ _ (HeadG t (headP [x.data.toList, a.data.toList, nm.data.toList, b.data.toList, en.data.toList]) out w)
  by_cases hx : x.data.toList = wScheme
  rotate_left
  · rw [headP_word hx]
    show Calls _ _ _ _ (StE t 4 w)
    have ez : (x.toList == [115, 99, 104, 101, 109, 101]) = false := by rw [lit_eq]; exact decide_eq_false hx
    clear h hE hR hz hx
    go_enter Tryz.func43, Tryz.ntmps43
    go_wp2
    go_ret2
    exact StE.nil _ _ _ _ (Below.refl _ _)
  have ez : (x.toList == [115, 99, 104, 101, 109, 101]) = true := by rw [lit_eq]; exact decide_eq_true hx
  rw [hx]
  by_cases hen : en.data.toList = wEnt
  rotate_left
  · rw [headP_ent hen]
    show Calls _ _ _ _ (StE t 4 w)
    have ez5 : (en.toList == [101, 110, 116, 105, 116, 108, 101, 100]) = false := by rw [lit_eq]; exact decide_eq_false hen
    clear h hE hR hz hx
    go_enter Tryz.func43, Tryz.ntmps43
    go_wp2
    go_ret2
    exact StE.nil _ _ _ _ (Below.refl _ _)
  have ez5 : (en.toList == [101, 110, 116, 105, 116, 108, 101, 100]) = true := by rw [lit_eq]; exact decide_eq_true hen
  rw [hen]
  rw [headP_go (.inr rfl)]
  have NM := Lib.hid (show ∀ W, Calls Tryz.prog 59 #[.string nm] W (fun e w' => e = .returned (.bool (Wo.nameB nm.data.toList)) ∧ W = w') from fun W => name_any nm W (by omega))
  have NU1 := Lib.hid (show Calls Tryz.prog 84 #[.string a, .int .i64 0, .int .i64 15] w (fun e w' => e = .returned (.tuple #[.int .i64 (Wo.numV a.data.toList 0 15), .bool (Wo.numB a.data.toList 0 15)]) ∧ Below w.heap.size w w') from number_any a 0 15 w hE (by omega))
  have NU2 := Lib.hid (fun (W : World) (hW : Below w.heap.size w W) => show Calls Tryz.prog 85 #[.string b] W (fun e w' => e = .returned (.tuple #[.int .i64 (Wo.numV b.data.toList 0 268435456), .bool (Wo.numB b.data.toList 0 268435456)]) ∧ Below W.heap.size W w') from number17_any b W (hE.below hW) (by omega))
  obtain ⟨nb, enb⟩ : ∃ z, Wo.nameB nm.data.toList = z := ⟨_, rfl⟩
  obtain ⟨k1, ek1⟩ : ∃ z, Wo.numB a.data.toList 0 15 = z := ⟨_, rfl⟩
  obtain ⟨k2, ek2⟩ : ∃ z, Wo.numB b.data.toList 0 268435456 = z := ⟨_, rfl⟩
  obtain ⟨v1, ev1⟩ : ∃ z, Wo.numV a.data.toList 0 15 = z := ⟨_, rfl⟩
  obtain ⟨v2, ev2⟩ : ∃ z, Wo.numV b.data.toList 0 268435456 = z := ⟨_, rfl⟩
  rw [enb] at NM
  rw [ek1, ev1] at NU1
  rw [ek2, ev2] at NU2
  rw [enb, ek1, ek2, ev1, ev2]
  have HRD := Lib.hid hR
  clear h hE hz hx enb ek1 ek2 ev1 ev2 hR
  cases nb
  · rw [if_neg (by simp)]
    show Calls _ _ _ _ (StE t 4 w)
    go_enter Tryz.func43, Tryz.ntmps43
    go_wp2_with (first | (go_at_call 59; (with_reducible refine Calls.mono (NM.out _) ?_); rintro e w1 ⟨rfl, rfl⟩))
    go_ret2
    exact StE.nil _ _ _ _ (Below.refl _ _)
  cases k1
  · rw [if_neg (by simp)]
    show Calls _ _ _ _ (StE t 4 w)
    go_enter Tryz.func43, Tryz.ntmps43
    go_wp2_with (first | (go_at_call 59; (with_reducible refine Calls.mono (NM.out _) ?_); rintro e w1 ⟨rfl, rfl⟩) | (go_at_call 84; (with_reducible refine Calls.mono NU1.out ?_); rintro e w2 ⟨rfl, hb2⟩; have k3c := (hb2.cell (p := ⟨B, O + 3, none⟩) hBl).trans g3; have k2c := (hb2.cell (p := ⟨B, O + 2, none⟩) hBl).trans g2; have NV2 := Lib.hid (NU2.out _ hb2); have HB2 := Lib.hid hb2; have hBl2 := Nat.lt_of_lt_of_le hBl hb2.size; clear hb2) | (go_at_call 85; (with_reducible refine Calls.mono NV2.out ?_); rintro e w3 ⟨rfl, hb3⟩; have m2c := (hb3.cell (p := ⟨B, O + 2, none⟩) hBl2).trans k2c; have HB3 := Lib.hid (bstep (Nat.le_refl _) HB2.out hb3); clear hb3))
    go_ret2
    exact StE.nil _ _ _ _ (HB3.out.mono (Nat.le_of_lt htl))
  cases k2
  · rw [if_neg (by simp)]
    show Calls _ _ _ _ (StE t 4 w)
    go_enter Tryz.func43, Tryz.ntmps43
    go_wp2_with (first | (go_at_call 59; (with_reducible refine Calls.mono (NM.out _) ?_); rintro e w1 ⟨rfl, rfl⟩) | (go_at_call 84; (with_reducible refine Calls.mono NU1.out ?_); rintro e w2 ⟨rfl, hb2⟩; have k3c := (hb2.cell (p := ⟨B, O + 3, none⟩) hBl).trans g3; have k2c := (hb2.cell (p := ⟨B, O + 2, none⟩) hBl).trans g2; have NV2 := Lib.hid (NU2.out _ hb2); have HB2 := Lib.hid hb2; have hBl2 := Nat.lt_of_lt_of_le hBl hb2.size; clear hb2) | (go_at_call 85; (with_reducible refine Calls.mono NV2.out ?_); rintro e w3 ⟨rfl, hb3⟩; have m2c := (hb3.cell (p := ⟨B, O + 2, none⟩) hBl2).trans k2c; have HB3 := Lib.hid (bstep (Nat.le_refl _) HB2.out hb3); clear hb3))
    go_ret2
    exact StE.nil _ _ _ _ (HB3.out.mono (Nat.le_of_lt htl))
  rw [if_pos ⟨rfl, rfl, rfl⟩]
  show Calls _ _ _ _ (StG 86 t (out ++ [schF v1 ⟨nm.data.toList.toArray⟩ v2 (decide ([wEnt] = [wEnt]))]) (-1) w)
  go_enter Tryz.func43, Tryz.ntmps43
  go_wp2_with (first | (go_at_call 59; (with_reducible refine Calls.mono (NM.out _) ?_); rintro e w1 ⟨rfl, rfl⟩) | (go_at_call 84; (with_reducible refine Calls.mono NU1.out ?_); rintro e w2 ⟨rfl, hb2⟩; have k3c := (hb2.cell (p := ⟨B, O + 3, none⟩) hBl).trans g3; have k2c := (hb2.cell (p := ⟨B, O + 2, none⟩) hBl).trans g2; have NV2 := Lib.hid (NU2.out _ hb2); have HB2 := Lib.hid hb2; have hBl2 := Nat.lt_of_lt_of_le hBl hb2.size; clear hb2) | (go_at_call 85; (with_reducible refine Calls.mono NV2.out ?_); rintro e w3 ⟨rfl, hb3⟩; have m2c := (hb3.cell (p := ⟨B, O + 2, none⟩) hBl2).trans k2c; have HB3 := Lib.hid (bstep (Nat.le_refl _) HB2.out hb3); clear hb3))
  have hR3 := HRD.out.below HB3.out
  have HB3t := Lib.hid (HB3.out.mono (Nat.le_of_lt htl))
  have ht3 := hR3.lt
  obtain ⟨⟨v, c0, hbld⟩, c1, hf, -⟩ := hR3
  have f0 := hf 0
  have f1 := hf 1
  have HF := Lib.hid hf
  obtain ⟨R, hRl, hOR, hBR⟩ := hbld.rows
  obtain ⟨p5, cc5, rfl, -, -, -, -, -⟩ := hOR.cut hRl
  have HBR := Lib.hid hBR
  have HOR := Lib.hid hOR
  have hol0 : 0 ≤ (out.length : Int) := Int.natCast_nonneg _
  clear hf hbld hOR hBR g0 g1 g2 g3 g4 k3c k2c hBl hBl2
  have hty : t < w3.heap.size := ht3
  have hA5 : Below w3.heap.size w3 ((w3.alloc (.cells (sCells (rowF v1 nm v2 true)).toArray 32)).drew) := ((Below.refl _ _).alloc (Nat.le_refl _) _).drew
  have HA5 := Lib.hid hA5
  have SRC := Lib.hid ((one_sch w3 (rowF v1 nm v2 true)).drew)
  have hRl2 : R.length ≤ 1000 := by omega
  clear hA5
  go_region_law ((refine OwnR.stepAp el_sch (by rfl) (.tmp 61) (.tmp 71) (by rfl) (t + 1) (.slice p5 out.length cc5) R [rowF v1 nm v2 true] (some ⟨w3.heap.size, 0, none⟩) 1 1 rfl (HOR.out.below HA5.out) SRC.out (fun h => by cases h) (by rfl) (by rfl) (Nat.le_trans hty HA5.out.size) (by omega) (by decide) ?_; intro v7 w7 hO7 hap7; obtain ⟨p7, cc7, rfl, -⟩ := hO7.cut (show (R ++ [rowF v1 nm v2 true]).length = out.length + 1 by rw [List.length_append, hRl]; rfl); have s0 := (hap7.below.cell (p := ⟨t, 0, none⟩) (Nat.lt_succ_self t)).trans ((HA5.out.cell (p := ⟨t, 0, none⟩) hty).trans c0); have z0 := (hap7.below.frozen (p := ⟨t, 0, none⟩) (Nat.lt_succ_self t)).trans ((HA5.out.frozen (p := ⟨t, 0, none⟩) hty).trans f0)))
  all_goals
    have s1 := (hap7.below.cell (p := ⟨t, 1, none⟩) (Nat.lt_succ_self t)).trans ((HA5.out.cell (p := ⟨t, 1, none⟩) hty).trans c1)
    have z1 := (hap7.below.frozen (p := ⟨t, 1, none⟩) (Nat.lt_succ_self t)).trans ((HA5.out.frozen (p := ⟨t, 1, none⟩) hty).trans f1)
    have zf := fun i => (hap7.below.frozen (p := ⟨t, i, none⟩) (Nat.lt_succ_self t)).trans ((HA5.out.frozen (p := ⟨t, i, none⟩) hty).trans (HF.out i))
    have FIN := Lib.hid (RdrAt.stored (out := out ++ [schF v1 nm v2 true]) (.inr ⟨out, _, rfl, HBR.out.push HA5.out (Nat.le_refl _) hO7 hap7⟩) s0 s1 zf (-1))
    have FB := Lib.hid (show Below t w ((w7.setCell ⟨t, 0, none⟩ (.slice p7 (out.length + 1) cc7)).setCell ⟨t, 1, none⟩ (.int .i64 (-1))) from ((HB3t.out.trans (HA5.out.mono (Nat.le_of_lt hty))).trans (hap7.below.mono (Nat.le_succ t)) |>.setCell (Nat.le_refl t) _).setCell (Nat.le_refl t) _)
    have ES : schF v1 ⟨nm.data.toList.toArray⟩ v2 (decide ([wEnt] = [wEnt])) = schF v1 nm v2 true := by simp
    clear hO7 hap7 zf
    go_wp2
    go_ret2
    exact ⟨rfl, ES ▸ FIN.out, FB.out⟩

set_option maxRecDepth 100000 in
set_option maxHeartbeats 4000000 in
theorem head17_any (t : Nat) (out : List Sch) (last : Int) (q : Option Addr) (ws : List ByteArray) (n c : Nat) (w : World) (hn : ws.length = n) (h : Recs SB w q ws) (hne : ws ≠ []) (hz : ∀ x ∈ ws, x.size ≤ 16384) (hE : Env w) (hR : RdrAt w t out last) (ho : out.length ≤ 1000) :
    Calls Tryz.prog 43 #[.pointer (some ⟨t, 0, none⟩), .slice q n c] w (HeadG t (headP (ll ws)) out w) := by
  have hl := h.len
  rw [hn] at hl
  by_cases h4 : n = 4
  · subst h4
    obtain ⟨x, a, nm, b, rfl⟩ := four_of hn
    exact head4_any t out last q x a nm b c w h hz hE hR ho
  by_cases h5 : n = 5
  · subst h5
    obtain ⟨x, a, nm, b, e, rfl⟩ := five_of hn
    exact head5_any t out last q x a nm b e c w h hz hE hR ho
  obtain ⟨x, r, rfl⟩ : ∃ x r, ws = x :: r := by
    cases ws with
    | nil => exact absurd rfl hne
    | cons x r => exact ⟨x, r, rfl⟩
  obtain ⟨B, O, rfl, hBl, g0⟩ := h.word (j := 0) (by simp)
  simp only [List.getElem_cons_zero, Nat.add_zero] at g0
  have hp : headP (ll (x :: r)) = none := headP_len (by unfold ll; rw [List.length_map, hn]; exact h4) (by unfold ll; rw [List.length_map, hn]; exact h5)
  rw [hp]
  show Calls _ _ _ _ (StE t 4 w)
  have d4 : ((n : Int) != 4) = true := by simp; omega
  have d5 : ((n : Int) != 5) = true := by simp; omega
  have hn0 : 0 < (n : Int) := by simp at hn; omega
  clear h hp hE hR hz hne
  obtain ⟨z, ez⟩ : ∃ z, (x.toList == [115, 99, 104, 101, 109, 101]) = z := ⟨_, rfl⟩
  cases z
  all_goals
    go_enter Tryz.func43, Tryz.ntmps43
    go_wp2
    go_ret2
    exact StE.nil _ _ _ _ (Below.refl _ _)

end Go.Proofs.YtflcdkibjakciaaGreatDoor
