/-
  MERGED (mergek.py): the texts T35, T36.
-/
import Derived.Test.YtflcdkibjakciaaGreatDoorT34
import Derived.Test.YtflcdkibjakciaaGreatDoorM24

namespace Go.Proofs.YtflcdkibjakciaaGreatDoor
open Go.RowKit Te Sc

/-- What a line of a condition leaves. -/
def CondG (t : Nat) (ws : List (List UInt8)) (A : List Sch) (s0 : Sch) (last : Int) (w : World) : Ending → World → Prop :=
  match ws with
  | [] => StE t 4 w
  | x :: r => if x = wIf then (match condR r with | .inl c => StG 117 t (A ++ [{ s0 with cond := c }]) last w | .inr e => StE t e w) else StE t 4 w

/-- Cells of a box of a term. -/
theorem box_term (W : World) (x0 x1 x2 x3 : Value) (w' : World) (hb : Below (W.heap.size + 1) (W.alloc (.cells #[x0, x1, x2, x3] 29)) w') : w'.cell? ⟨W.heap.size, 0, none⟩ = some x0 ∧ w'.cell? ⟨W.heap.size, 1, none⟩ = some x1 ∧ w'.cell? ⟨W.heap.size, 2, none⟩ = some x2 ∧ w'.cell? ⟨W.heap.size, 3, none⟩ = some x3 :=
  ⟨(hb.cell (p := ⟨W.heap.size, 0, none⟩) (Nat.lt_succ_self _)).trans (World.cell?_alloc_new _ _ _ 0), (hb.cell (p := ⟨W.heap.size, 1, none⟩) (Nat.lt_succ_self _)).trans (World.cell?_alloc_new _ _ _ 1),
    (hb.cell (p := ⟨W.heap.size, 2, none⟩) (Nat.lt_succ_self _)).trans (World.cell?_alloc_new _ _ _ 2), (hb.cell (p := ⟨W.heap.size, 3, none⟩) (Nat.lt_succ_self _)).trans (World.cell?_alloc_new _ _ _ 3)⟩

def condV (o : Option (Tm × List (List UInt8))) : Tm ⊕ Int := match o with | none => .inr 4 | some (t, r') => if chkT t ≠ 0 then .inr (chkT t) else if r' = [] then .inl t else .inr 4
theorem condR_of {r : List (List UInt8)} {o : Option (Tm × List (List UInt8))} (h : readT (2 * r.length) r = o) : condR r = condV o := by
  unfold condR; rw [h]; rfl

set_option maxRecDepth 100000 in
set_option maxHeartbeats 8000000 in
theorem cond17_any (t : Nat) (A : List Sch) (s0 : Sch) (last : Int) (q : Option Addr) (x : ByteArray) (r : List ByteArray) (n c : Nat) (w : World) (hn : r.length + 1 = n) (h : WSl w q c (x :: r)) (hz : ∀ y ∈ r, y.size ≤ 16384) (hrl : r.length ≤ 1000000) (hE : Env w) (hR : RdrAt w t (A ++ [s0]) last) (hA : A.length ≤ 1000) (ht : gtop < t) :
    Calls Tryz.prog 86 #[.pointer (some ⟨t, 0, none⟩), .slice q n c] w (CondG t (ll (x :: r)) A s0 last w) := by
  subst hn
  obtain ⟨B, O, q2, c1, rfl, hBl, g0, hlc, hw2, hq2, hrun⟩ := h.cons
  have htl := hR.lt
  show Calls _ _ _ _ (if x.data.toList = wIf then (match condR (ll r) with | .inl c => StG 117 t (A ++ [{ s0 with cond := c }]) last w | .inr e => StE t e w) else StE t 4 w)
  by_cases hx : x.data.toList = wIf
  rotate_left
  · rw [if_neg hx]
    have ez : (x.toList == [105, 102]) = false := by rw [lit_eq]; exact decide_eq_false hx
    clear h hE hR hz hx hrun
    obtain ⟨m, em⟩ : ∃ m, r.length + 1 = m := ⟨_, rfl⟩
    have hm : 0 < (m : Int) := by omega
    rw [em]
    clear em
    go_enter Tryz.func86, Tryz.ntmps86
    go_wp2
    go_ret2
    exact StE.nil _ _ _ _ (Below.refl _ _)
  rw [if_pos hx]
  have ez : (x.toList == [105, 102]) = true := by rw [lit_eq]; exact decide_eq_true hx
  have PA := Lib.hid (parse16_any q2 r c1 w hw2.recs hw2.le hw2.nn hz hrl hE (by omega))
  have HRD := Lib.hid hR
  obtain ⟨tv, etv⟩ : ∃ tv, readT (2 * r.length) (ll r) = tv := ⟨_, rfl⟩
  have hcr := condR_of (r := ll r) (o := tv) (by unfold ll at etv ⊢; rw [List.length_map]; exact etv)
  rw [etv] at PA
  rw [hcr]
  have hm0 : 0 < ((r.length + 1 : Nat) : Int) := by omega
  clear h hE hR hz hx etv hcr hw2 hq2
  -- the last row's cells, in whatever world behind
  have KX := Lib.hid (fun (W : World) (hb : Below w.heap.size w W) => show ∃ g cc, W.cell? ⟨t, 0, none⟩ = some (.slice (some ⟨g, 0, none⟩) (A.length + 1) cc) ∧ t + 1 ≤ g ∧ g < w.heap.size ∧ Bld (t + 1) w (.slice (some ⟨g, 0, none⟩) (A.length + 1) cc) A s0 ∧ (∃ rr, SCells W g (A.length * 10) rr) ∧ (∀ i, W.frozen? ⟨g, i, none⟩ = false) from by
    have h2 := HRD.out
    obtain ⟨⟨v, h0, hB⟩, -, -, h5⟩ := h2
    rcases hB with ⟨e, -⟩ | ⟨A', s', e, hB⟩
    · exact absurd e (by simp)
    · obtain ⟨rfl, rfl⟩ := snoc_inj e
      have hB2 := hB
      obtain ⟨d, R, rr, lb, k1, k2⟩ := hB2
      obtain ⟨g, cc, rfl, a1, a2, a3, a4, a5, -⟩ := k1.at
      exact ⟨g, cc, (hb.cell (p := ⟨t, 0, none⟩) h5).trans h0, a1, a2, hB, ⟨rr, a4.below hb a2⟩, fun i => (hb.frozen (p := ⟨g, i, none⟩) a2).trans (a5 i)⟩)
  have KXZ := Lib.hid (fun (g cc : Nat) {W : World} (hb : Below w.heap.size w W) (h : W.cell? ⟨t, 0, none⟩ = some (.slice (some ⟨g, 0, none⟩) (A.length + 1) cc)) => show w.cell? ⟨t, 0, none⟩ = some (.slice (some ⟨g, 0, none⟩) (A.length + 1) cc) from (hb.cell (p := ⟨t, 0, none⟩) htl).symm.trans h)
  have hA1 : A.length + 1 ≤ 9223372036854775807 := by omega
  cases tv with
  | none =>
    show Calls _ _ _ _ (StE t 4 w)
    unfold ParseTG ParseBad at PA
    go_enter Tryz.func86, Tryz.ntmps86
    go_wp2_with (first | (go_at_call 116; (with_reducible refine Calls.mono PA.out ?_); rintro e w2 ⟨rfl, hb2⟩; have HB2 := Lib.hid hb2; clear hb2) | fail)
    obtain ⟨W4, eW4⟩ : ∃ W4 : World, w2.alloc (.cells #[Value.int .i64 0, Value.int .i64 0, Value.int .i64 0, Value.slice none 0 0] 29) = W4 := ⟨_, rfl⟩
    have hA4 : Below w.heap.size w W4 := eW4 ▸ balloc (Nat.le_refl _) HB2.out _
    obtain ⟨b0, b1, b2, b3⟩ := box_term w2 (Value.int .i64 0) (Value.int .i64 0) (Value.int .i64 0) (Value.slice none 0 0) W4 (eW4 ▸ Below.refl _ _)
    have hbx : w.heap.size ≤ w2.heap.size := HB2.out.size
    have hbl : w2.heap.size < W4.heap.size := by rw [← eW4]; simp
    obtain ⟨g, cc, k0, hg1, hg2, HBD, ⟨rr, hC⟩, hf⟩ := KX.out _ hA4
    have NOW := Lib.hid (fun (W : World) (h : W.cell? ⟨t, 0, none⟩ = some (.slice (some ⟨g, 0, none⟩) (A.length + 1) cc)) => now17_any t g A.length cc W h hA1)
    rw [eW4]
    have NOWd := Lib.hid (NOW.out W4.drew k0)
    have HA4 := Lib.hid hA4
    have HBDH := Lib.hid HBD
    have e2 := hC.c2
    have e3 := hC.c3
    have e4 := hC.c4
    have e5 := hC.c5
    have f2 := hf (A.length * 10 + 2)
    have f3 := hf (A.length * 10 + 3)
    have f4 := hf (A.length * 10 + 4)
    have f5 := hf (A.length * 10 + 5)
    have hne : g ≠ w2.heap.size := by omega
    have HRT := Lib.hid (show t < W4.heap.size by omega)
    have CT1 := HRD.out.below hA4
    have EW4 := Lib.hid eW4
    clear hC hf HBD hA4 eW4 CT1
    go_region_held3 (fun W => W.cell? ⟨w2.heap.size, 0, none⟩ = some (Value.int .i64 0) ∧ W.cell? ⟨w2.heap.size, 1, none⟩ = some (Value.int .i64 0) ∧ W.cell? ⟨w2.heap.size, 2, none⟩ = some (Value.int .i64 0) ∧ W.cell? ⟨w2.heap.size, 3, none⟩ = some (Value.slice none 0 0))
      (first | exact ⟨b0, b1, b2, b3⟩ | (refine ⟨?_, ?_, ?_, ?_⟩ <;> (repeat rw [World.cell?_setCell_other _ _ _ _ (fun e => hne (congrArg Addr.block e))]) <;> first | exact b0 | exact b1 | exact b2 | exact b3) | fail)
      (first
        | (go_at_call 87; (with_reducible refine Calls.mono NOWd.out ?_); rintro e wn ⟨rfl, m, rfl⟩)
        | fail)
    have FB := Lib.hid (show Below t w (W4.drewN (1 + m)) from (HA4.out.trans ((drewN_below _ _).mono HA4.out.size)).mono (Nat.le_of_lt htl))
    have hgt : t ≤ g := by omega
    have FIN := Lib.hid (show Below t w (((((W4.drewN (1 + m)).setCell ⟨g, A.length * 10 + 2, none⟩ (Value.int .i64 0)).setCell ⟨g, A.length * 10 + 2 + 1, none⟩ (Value.int .i64 0)).setCell ⟨g, A.length * 10 + 2 + 2, none⟩ (Value.int .i64 0)).setCell ⟨g, A.length * 10 + 2 + 3, none⟩ (Value.slice none 0 0)) from (((FB.out.setCell hgt _).setCell hgt _).setCell hgt _).setCell hgt _)
    go_wp2
    go_ret2
    exact ⟨⟨_, rfl⟩, FIN.out⟩
  | some tr =>
    obtain ⟨tm, rr0⟩ := tr
    show Calls _ _ _ _ (match (if chkT tm ≠ 0 then .inr (chkT tm) else if rr0 = [] then .inl tm else .inr 4 : Tm ⊕ Int) with | .inl c => StG 117 t (A ++ [{ s0 with cond := c }]) last w | .inr e => StE t e w)
    unfold ParseTG at PA
    by_cases hck : chkT tm = 0
    rotate_left
    · rw [if_pos hck]
      simp only [if_neg hck] at PA
      show Calls _ _ _ _ (StE t (chkT tm) w)
      obtain ⟨er, eer⟩ : ∃ e, chkT tm = e := ⟨_, rfl⟩
      rw [eer] at PA hck ⊢
      have hne : (er == 0) = false := by simpa using hck
      unfold ParseBad at PA
      clear eer hck
      go_enter Tryz.func86, Tryz.ntmps86
      go_wp2_with (first | (go_at_call 116; (with_reducible refine Calls.mono PA.out ?_); rintro e w2 ⟨rfl, hb2⟩; have HB2 := Lib.hid hb2; clear hb2) | fail)
      obtain ⟨W4, eW4⟩ : ∃ W4 : World, w2.alloc (.cells #[Value.int .i64 0, Value.int .i64 0, Value.int .i64 0, Value.slice none 0 0] 29) = W4 := ⟨_, rfl⟩
      have hA4 : Below w.heap.size w W4 := eW4 ▸ balloc (Nat.le_refl _) HB2.out _
      obtain ⟨b0, b1, b2, b3⟩ := box_term w2 (Value.int .i64 0) (Value.int .i64 0) (Value.int .i64 0) (Value.slice none 0 0) W4 (eW4 ▸ Below.refl _ _)
      have hbx : w.heap.size ≤ w2.heap.size := HB2.out.size
      have hbl : w2.heap.size < W4.heap.size := by rw [← eW4]; simp
      obtain ⟨g, cc, k0, hg1, hg2, HBD, ⟨rr, hC⟩, hf⟩ := KX.out _ hA4
      have NOW := Lib.hid (fun (W : World) (h : W.cell? ⟨t, 0, none⟩ = some (.slice (some ⟨g, 0, none⟩) (A.length + 1) cc)) => now17_any t g A.length cc W h hA1)
      rw [eW4]
      have NOWd := Lib.hid (NOW.out W4.drew k0)
      have HA4 := Lib.hid hA4
      have HBDH := Lib.hid HBD
      have e2 := hC.c2
      have e3 := hC.c3
      have e4 := hC.c4
      have e5 := hC.c5
      have f2 := hf (A.length * 10 + 2)
      have f3 := hf (A.length * 10 + 3)
      have f4 := hf (A.length * 10 + 4)
      have f5 := hf (A.length * 10 + 5)
      have hne : g ≠ w2.heap.size := by omega
      have HRT := Lib.hid (show t < W4.heap.size by omega)
      have CT1 := HRD.out.below hA4
      have EW4 := Lib.hid eW4
      clear hC hf HBD hA4 eW4 CT1
      go_region_held3 (fun W => W.cell? ⟨w2.heap.size, 0, none⟩ = some (Value.int .i64 0) ∧ W.cell? ⟨w2.heap.size, 1, none⟩ = some (Value.int .i64 0) ∧ W.cell? ⟨w2.heap.size, 2, none⟩ = some (Value.int .i64 0) ∧ W.cell? ⟨w2.heap.size, 3, none⟩ = some (Value.slice none 0 0))
        (first | exact ⟨b0, b1, b2, b3⟩ | (refine ⟨?_, ?_, ?_, ?_⟩ <;> (repeat rw [World.cell?_setCell_other _ _ _ _ (fun e => hne (congrArg Addr.block e))]) <;> first | exact b0 | exact b1 | exact b2 | exact b3) | fail)
        (first
          | (go_at_call 87; (with_reducible refine Calls.mono NOWd.out ?_); rintro e wn ⟨rfl, m, rfl⟩)
          | fail)
      have FB := Lib.hid (show Below t w (W4.drewN (1 + m)) from (HA4.out.trans ((drewN_below _ _).mono HA4.out.size)).mono (Nat.le_of_lt htl))
      have hgt : t ≤ g := by omega
      have FIN := Lib.hid (show Below t w (((((W4.drewN (1 + m)).setCell ⟨g, A.length * 10 + 2, none⟩ (Value.int .i64 0)).setCell ⟨g, A.length * 10 + 2 + 1, none⟩ (Value.int .i64 0)).setCell ⟨g, A.length * 10 + 2 + 2, none⟩ (Value.int .i64 0)).setCell ⟨g, A.length * 10 + 2 + 3, none⟩ (Value.slice none 0 0)) from (((FB.out.setCell hgt _).setCell hgt _).setCell hgt _).setCell hgt _)
      go_wp2
      go_ret2
      exact ⟨⟨_, rfl⟩, FIN.out⟩
    rw [if_neg (by rw [hck]; decide)]
    simp only [if_pos hck] at PA
    unfold ParseGood at PA
    by_cases hr0 : rr0 = []
    · rw [if_pos hr0]
      show Calls _ _ _ _ (StG 117 t (A ++ [{ s0 with cond := tm }]) last w)
      subst hr0
      clear hck
      go_enter Tryz.func86, Tryz.ntmps86
      go_wp2_with (first | (go_at_call 116; (with_reducible refine Calls.mono PA.out ?_); rintro e w2 ⟨row, p5, c5, d5, rfl, hv5, hb2⟩; have HB2 := Lib.hid hb2; have HV := Lib.hid hv5; clear hb2 hv5) | fail)
      obtain ⟨W4, eW4⟩ : ∃ W4 : World, w2.alloc (.cells #[Value.int .i64 row.op, Value.int .i64 row.num, Value.int .i64 row.more, Value.slice row.p row.n row.c] 29) = W4 := ⟨_, rfl⟩
      have hA4 : Below w.heap.size w W4 := eW4 ▸ balloc (Nat.le_refl _) HB2.out _
      obtain ⟨b0, b1, b2, b3⟩ := box_term w2 (Value.int .i64 row.op) (Value.int .i64 row.num) (Value.int .i64 row.more) (Value.slice row.p row.n row.c) W4 (eW4 ▸ Below.refl _ _)
      have hbx : w.heap.size ≤ w2.heap.size := HB2.out.size
      have hbl : w2.heap.size < W4.heap.size := by rw [← eW4]; simp
      obtain ⟨g, cc, k0, hg1, hg2, HBD, ⟨rr, hC⟩, hf⟩ := KX.out _ hA4
      have NOW := Lib.hid (fun (W : World) (h : W.cell? ⟨t, 0, none⟩ = some (.slice (some ⟨g, 0, none⟩) (A.length + 1) cc)) => now17_any t g A.length cc W h hA1)
      rw [eW4]
      have NOWd := Lib.hid (NOW.out W4.drew k0)
      have HA4 := Lib.hid hA4
      have HBDH := Lib.hid HBD
      have e2 := hC.c2
      have e3 := hC.c3
      have e4 := hC.c4
      have e5 := hC.c5
      have f2 := hf (A.length * 10 + 2)
      have f3 := hf (A.length * 10 + 3)
      have f4 := hf (A.length * 10 + 4)
      have f5 := hf (A.length * 10 + 5)
      have hne : g ≠ w2.heap.size := by omega
      have HRT := Lib.hid (show t < W4.heap.size by omega)
      have CT1 := HRD.out.below hA4
      have EW4 := Lib.hid eW4
      clear hC hf HBD hA4 eW4 CT1
      go_region_held3 (fun W => W.cell? ⟨w2.heap.size, 0, none⟩ = some (Value.int .i64 row.op) ∧ W.cell? ⟨w2.heap.size, 1, none⟩ = some (Value.int .i64 row.num) ∧ W.cell? ⟨w2.heap.size, 2, none⟩ = some (Value.int .i64 row.more) ∧ W.cell? ⟨w2.heap.size, 3, none⟩ = some (Value.slice row.p row.n row.c))
        (first | exact ⟨b0, b1, b2, b3⟩ | (refine ⟨?_, ?_, ?_, ?_⟩ <;> (repeat rw [World.cell?_setCell_other _ _ _ _ (fun e => hne (congrArg Addr.block e))]) <;> first | exact b0 | exact b1 | exact b2 | exact b3) | fail)
        (first
          | (go_at_call 87; (with_reducible refine Calls.mono NOWd.out ?_); rintro e wn ⟨rfl, m, rfl⟩)
          | fail)
      have HB5 := Lib.hid (show Below w.heap.size w (W4.drewN (1 + m)) from HA4.out.trans ((drewN_below _ _).mono HA4.out.size))
      have FB := Lib.hid (HB5.out.mono (Nat.le_of_lt htl))
      have hgt : t ≤ g := by omega
      have FIN := Lib.hid (show Below t w (((((W4.drewN (1 + m)).setCell ⟨g, A.length * 10 + 2, none⟩ (Value.int .i64 row.op)).setCell ⟨g, A.length * 10 + 3, none⟩ (Value.int .i64 row.num)).setCell ⟨g, A.length * 10 + 4, none⟩ (Value.int .i64 row.more)).setCell ⟨g, A.length * 10 + 5, none⟩ (Value.slice row.p row.n row.c)) from (((FB.out.setCell hgt _).setCell hgt _).setCell hgt _).setCell hgt _)
      have TV5 := (HV.out.below (show Below w2.heap.size w2 W4 from EW4.out ▸ (Below.refl _ _).alloc (Nat.le_refl _) _)).below (drewN_below W4 (1 + m))
      have CN := Lib.hid (HBDH.out.setCond HB5.out TV5 rfl)
      have k00 := KXZ.out g cc HA4.out k0
      have FR := Lib.hid (HRD.out.row k00 HB5.out (by rw [setCell_sz, setCell_sz, setCell_sz, setCell_sz]) (fun b hn => by rw [setCell_far _ hn, setCell_far _ hn, setCell_far _ hn, setCell_far _ hn]) hg1 CN.out)
      clear TV5 k00
      go_wp2
      go_ret2
      exact ⟨rfl, FR.out, FIN.out⟩
    · rw [if_neg hr0]
      show Calls _ _ _ _ (StE t 4 w)
      obtain ⟨rl, erl⟩ : ∃ l, rr0.length = l := ⟨_, rfl⟩
      have hrl0 : 0 < (rl : Int) := by
        have := List.length_pos_iff.2 hr0
        omega
      rw [erl] at PA
      clear hck hr0 erl
      go_enter Tryz.func86, Tryz.ntmps86
      go_wp2_with (first | (go_at_call 116; (with_reducible refine Calls.mono PA.out ?_); rintro e w2 ⟨row, p5, c5, d5, rfl, hv5, hb2⟩; have HB2 := Lib.hid hb2; have HV := Lib.hid hv5; clear hb2 hv5) | fail)
      obtain ⟨W4, eW4⟩ : ∃ W4 : World, w2.alloc (.cells #[Value.int .i64 row.op, Value.int .i64 row.num, Value.int .i64 row.more, Value.slice row.p row.n row.c] 29) = W4 := ⟨_, rfl⟩
      have hA4 : Below w.heap.size w W4 := eW4 ▸ balloc (Nat.le_refl _) HB2.out _
      obtain ⟨b0, b1, b2, b3⟩ := box_term w2 (Value.int .i64 row.op) (Value.int .i64 row.num) (Value.int .i64 row.more) (Value.slice row.p row.n row.c) W4 (eW4 ▸ Below.refl _ _)
      have hbx : w.heap.size ≤ w2.heap.size := HB2.out.size
      have hbl : w2.heap.size < W4.heap.size := by rw [← eW4]; simp
      obtain ⟨g, cc, k0, hg1, hg2, HBD, ⟨rr, hC⟩, hf⟩ := KX.out _ hA4
      have NOW := Lib.hid (fun (W : World) (h : W.cell? ⟨t, 0, none⟩ = some (.slice (some ⟨g, 0, none⟩) (A.length + 1) cc)) => now17_any t g A.length cc W h hA1)
      rw [eW4]
      have NOWd := Lib.hid (NOW.out W4.drew k0)
      have HA4 := Lib.hid hA4
      have HBDH := Lib.hid HBD
      have e2 := hC.c2
      have e3 := hC.c3
      have e4 := hC.c4
      have e5 := hC.c5
      have f2 := hf (A.length * 10 + 2)
      have f3 := hf (A.length * 10 + 3)
      have f4 := hf (A.length * 10 + 4)
      have f5 := hf (A.length * 10 + 5)
      have hne : g ≠ w2.heap.size := by omega
      have HRT := Lib.hid (show t < W4.heap.size by omega)
      have CT1 := HRD.out.below hA4
      have EW4 := Lib.hid eW4
      clear hC hf HBD hA4 eW4 CT1
      go_region_held3 (fun W => W.cell? ⟨w2.heap.size, 0, none⟩ = some (Value.int .i64 row.op) ∧ W.cell? ⟨w2.heap.size, 1, none⟩ = some (Value.int .i64 row.num) ∧ W.cell? ⟨w2.heap.size, 2, none⟩ = some (Value.int .i64 row.more) ∧ W.cell? ⟨w2.heap.size, 3, none⟩ = some (Value.slice row.p row.n row.c))
        (first | exact ⟨b0, b1, b2, b3⟩ | (refine ⟨?_, ?_, ?_, ?_⟩ <;> (repeat rw [World.cell?_setCell_other _ _ _ _ (fun e => hne (congrArg Addr.block e))]) <;> first | exact b0 | exact b1 | exact b2 | exact b3) | fail)
        (first
          | (go_at_call 87; (with_reducible refine Calls.mono NOWd.out ?_); rintro e wn ⟨rfl, m, rfl⟩)
          | fail)
      have FB := Lib.hid (show Below t w (W4.drewN (1 + m)) from (HA4.out.trans ((drewN_below _ _).mono HA4.out.size)).mono (Nat.le_of_lt htl))
      have hgt : t ≤ g := by omega
      have FIN := Lib.hid (show Below t w (((((W4.drewN (1 + m)).setCell ⟨g, A.length * 10 + 2, none⟩ (Value.int .i64 row.op)).setCell ⟨g, A.length * 10 + 2 + 1, none⟩ (Value.int .i64 row.num)).setCell ⟨g, A.length * 10 + 2 + 2, none⟩ (Value.int .i64 row.more)).setCell ⟨g, A.length * 10 + 2 + 3, none⟩ (Value.slice row.p row.n row.c)) from (((FB.out.setCell hgt _).setCell hgt _).setCell hgt _).setCell hgt _)
      go_wp2
      go_ret2
      exact ⟨⟨_, rfl⟩, FIN.out⟩

end Go.Proofs.YtflcdkibjakciaaGreatDoor

namespace Go.Proofs.YtflcdkibjakciaaGreatDoor
open Go.RowKit Te Sc

/-- What a line of a rate leaves. -/
def RateG (t : Nat) (ws : List (List UInt8)) (A : List Sch) (s0 : Sch) (last : Int) (w : World) : Ending → World → Prop :=
  match ws with
  | [] => StE t 4 w
  | x :: r => if x = wRate then (match rateR r with | some b => StG 142 t (A ++ [{ s0 with br := s0.br ++ [b] }]) last w | none => StE t 4 w) else StE t 4 w

theorem rateR_len {r : List (List UInt8)} (h : r.length ≠ 2) : rateR r = none := by
  unfold rateR
  split
  · exact absurd rfl h
  · rfl
theorem rateR_two (a b : List UInt8) : rateR [a, b] = if Wo.numB a 0 268435456 = true ∧ Wo.numB b 0 268435456 = true then some ⟨Wo.numV a 0 268435456, Wo.numV b 0 268435456⟩ else none := by
  unfold rateR
  simp only
  rw [num0_eq, num0_eq]
  cases h2 : Wo.numB a 0 268435456 <;> cases h3 : Wo.numB b 0 268435456 <;> simp

theorem one_brk (W : World) (b : Brk) : Recs SBk (W.alloc (.cells #[.int .i64 b.up, .int .i64 b.rate] 34)) (some ⟨W.heap.size, 0, none⟩) [b] := Recs.lit (S := SBk) W 34 [b] (by show 1 ≤ _; unfold maxLen; omega)

set_option maxRecDepth 100000 in
set_option maxHeartbeats 8000000 in
theorem rate17_any (t : Nat) (A : List Sch) (s0 : Sch) (last : Int) (q : Option Addr) (x : ByteArray) (r : List ByteArray) (n c : Nat) (w : World) (hn : (x :: r).length = n) (h : Recs SB w q (x :: r)) (hz : ∀ y ∈ r, y.size ≤ 16384) (hE : Env w) (hR : RdrAt w t (A ++ [s0]) last) (hA : A.length ≤ 1000) (hbl : s0.br.length ≤ 1000) :
    Calls Tryz.prog 117 #[.pointer (some ⟨t, 0, none⟩), .slice q n c] w (RateG t (ll (x :: r)) A s0 last w) := by
  have hl := h.len
  have htl := hR.lt
  obtain ⟨B, O, rfl, hBl, g0⟩ := h.word (j := 0) (by simp)
  simp only [List.getElem_cons_zero, Nat.add_zero] at g0
  have hn0 : 0 < (n : Int) := by rw [List.length_cons] at hn; omega
  show Calls _ _ _ _ (if x.data.toList = wRate then (match rateR (ll r) with | some b => StG 142 t (A ++ [{ s0 with br := s0.br ++ [b] }]) last w | none => StE t 4 w) else StE t 4 w)
  by_cases hx : x.data.toList = wRate
  rotate_left
  · rw [if_neg hx]
    have ez : (x.toList == [114, 97, 116, 101]) = false := by rw [lit_eq]; exact decide_eq_false hx
    clear h hE hR hz hx hl hn
    go_enter Tryz.func117, Tryz.ntmps117
    go_wp2
    go_ret2
    exact StE.nil _ _ _ _ (Below.refl _ _)
  rw [if_pos hx]
  have ez : (x.toList == [114, 97, 116, 101]) = true := by rw [lit_eq]; exact decide_eq_true hx
  by_cases h3 : n = 3
  rotate_left
  · rw [rateR_len (by unfold ll; rw [List.length_map]; rw [List.length_cons] at hn; omega)]
    have d3 : ((n : Int) != 3) = true := by simp; omega
    clear h hE hR hz hx hl hn
    go_enter Tryz.func117, Tryz.ntmps117
    go_wp2
    go_ret2
    exact StE.nil _ _ _ _ (Below.refl _ _)
  subst h3
  obtain ⟨a, b, rfl⟩ : ∃ a b, r = [a, b] := by
    match r, hn with
    | [a, b], _ => exact ⟨a, b, rfl⟩
  obtain ⟨B1, O1, e1, -, g1⟩ := h.word (j := 1) (by simp)
  cases e1
  obtain ⟨B2, O2, e2, -, g2⟩ := h.word (j := 2) (by simp)
  cases e2
  simp only [List.getElem_cons_zero, List.getElem_cons_succ] at g1 g2
  have haz := hz a (by simp)
  have hbz := hz b (by simp)
  show Calls _ _ _ _ (match rateR [a.data.toList, b.data.toList] with | some b => StG 142 t (A ++ [{ s0 with br := s0.br ++ [b] }]) last w | none => StE t 4 w)
  rw [rateR_two]
  have NU1 := Lib.hid (show Calls Tryz.prog 85 #[.string a] w (fun e w' => e = .returned (.tuple #[.int .i64 (Wo.numV a.data.toList 0 268435456), .bool (Wo.numB a.data.toList 0 268435456)]) ∧ Below w.heap.size w w') from number17_any a w hE (by omega))
  have NU2 := Lib.hid (fun (W : World) (hW : Below w.heap.size w W) => show Calls Tryz.prog 85 #[.string b] W (fun e w' => e = .returned (.tuple #[.int .i64 (Wo.numV b.data.toList 0 268435456), .bool (Wo.numB b.data.toList 0 268435456)]) ∧ Below W.heap.size W w') from number17_any b W (hE.below hW) (by omega))
  obtain ⟨k1, ek1⟩ : ∃ z, Wo.numB a.data.toList 0 268435456 = z := ⟨_, rfl⟩
  obtain ⟨k2, ek2⟩ : ∃ z, Wo.numB b.data.toList 0 268435456 = z := ⟨_, rfl⟩
  obtain ⟨v1, ev1⟩ : ∃ z, Wo.numV a.data.toList 0 268435456 = z := ⟨_, rfl⟩
  obtain ⟨v2, ev2⟩ : ∃ z, Wo.numV b.data.toList 0 268435456 = z := ⟨_, rfl⟩
  rw [ek1, ev1] at NU1
  rw [ek2, ev2] at NU2
  rw [ek1, ek2, ev1, ev2]
  have HRD := Lib.hid hR
  clear h hE hz hx ek1 ek2 ev1 ev2 hR hl hn
  cases k1
  · rw [if_neg (by simp)]
    show Calls _ _ _ _ (StE t 4 w)
    go_enter Tryz.func117, Tryz.ntmps117
    go_wp2_with (first | (go_at_call 85; (with_reducible refine Calls.mono NU1.out ?_); rintro e w2 ⟨rfl, hb2⟩; have k2c := (hb2.cell (p := ⟨B, O + 2, none⟩) hBl).trans g2; have NV2 := Lib.hid (NU2.out _ hb2); have HB2 := Lib.hid hb2; clear hb2) | (go_at_call 85; (with_reducible refine Calls.mono NV2.out ?_); rintro e w3 ⟨rfl, hb3⟩; have HB3 := Lib.hid (bstep (Nat.le_refl _) HB2.out hb3); clear hb3))
    go_ret2
    exact StE.nil _ _ _ _ (HB3.out.mono (Nat.le_of_lt htl))
  cases k2
  · rw [if_neg (by simp)]
    show Calls _ _ _ _ (StE t 4 w)
    go_enter Tryz.func117, Tryz.ntmps117
    go_wp2_with (first | (go_at_call 85; (with_reducible refine Calls.mono NU1.out ?_); rintro e w2 ⟨rfl, hb2⟩; have k2c := (hb2.cell (p := ⟨B, O + 2, none⟩) hBl).trans g2; have NV2 := Lib.hid (NU2.out _ hb2); have HB2 := Lib.hid hb2; clear hb2) | (go_at_call 85; (with_reducible refine Calls.mono NV2.out ?_); rintro e w3 ⟨rfl, hb3⟩; have HB3 := Lib.hid (bstep (Nat.le_refl _) HB2.out hb3); clear hb3))
    go_ret2
    exact StE.nil _ _ _ _ (HB3.out.mono (Nat.le_of_lt htl))
  rw [if_pos ⟨rfl, rfl⟩]
  show Calls _ _ _ _ (StG 142 t (A ++ [{ s0 with br := s0.br ++ [⟨v1, v2⟩] }]) last w)
  obtain ⟨gg, cc, k0, hg1, hg2, hBD, ⟨rr, hC, -⟩, hf⟩ := HRD.out.lastRow
  obtain ⟨bp, bc, c6, hOB, hNE, hNX⟩ := hBD.brackets rfl
  have C6 := Lib.hid c6
  have F6 := Lib.hid (hf (A.length * 10 + 6))
  have K0 := Lib.hid k0
  have HOB := Lib.hid hOB
  have HNX := Lib.hid hNX
  have hA1 : A.length + 1 ≤ 9223372036854775807 := by omega
  have NOW := Lib.hid (fun (W : World) (hW : Below w.heap.size w W) => now17_any t gg A.length cc W ((hW.cell (p := ⟨t, 0, none⟩) htl).trans K0.out) hA1)
  obtain ⟨bl, ebl⟩ : ∃ l, s0.br.length = l := ⟨_, rfl⟩
  rw [ebl] at C6 HOB HNX hbl hNE
  have EBL := Lib.hid ebl
  have HNE := Lib.hid hNE
  clear hBD hC hf k0 c6 hOB hNX ebl hNE
  go_enter Tryz.func117, Tryz.ntmps117
  go_wp2_with (first
    | (go_at_call 85; (with_reducible refine Calls.mono NU1.out ?_); rintro e w2 ⟨rfl, hb2⟩; have k2c := (hb2.cell (p := ⟨B, O + 2, none⟩) hBl).trans g2; have NV2 := Lib.hid (NU2.out _ hb2); have HB2 := Lib.hid hb2; clear hb2)
    | (go_at_call 85; (with_reducible refine Calls.mono NV2.out ?_); rintro e w3 ⟨rfl, hb3⟩; have HB3 := Lib.hid (bstep (Nat.le_refl _) HB2.out hb3); have NOW3 := Lib.hid (NOW.out w3 HB3.out); clear hb3)
    | (go_at_call 87; (with_reducible refine Calls.mono NOW3.out ?_); rintro e w4 ⟨rfl, m4, hm4⟩; have HB4 := Lib.hid (show Below w.heap.size w w4 from hm4 ▸ HB3.out.trans ((drewN_below _ _).mono HB3.out.size)); have NOW4 := Lib.hid (NOW.out w4 HB4.out); clear hm4)
    | (go_at_call 87; (with_reducible refine Calls.mono NOW4.out ?_); rintro e w5 ⟨rfl, m5, hm5⟩; have HB5 := Lib.hid (show Below w.heap.size w w5 from hm5 ▸ HB4.out.trans ((drewN_below _ _).mono HB4.out.size)); have c65 := (HB5.out.cell (p := ⟨gg, A.length * 10 + 6, none⟩) hg2).trans C6.out; have A5 := Lib.hid (HB5.out.alloc HB5.out.size (.cells #[.int .i64 v1, .int .i64 v2] 34)); have SRC := Lib.hid (one_brk w5 ⟨v1, v2⟩); clear hm5)
    | (at_builtin; (refine OwnR.appendAll el_brk rfl (.tmp 45) (.tmp 49) rfl (t + 1) (.slice bp bl bc) s0.br [⟨v1, v2⟩] (some ⟨w5.heap.size, 0, none⟩) 1 1 rfl (HOB.out.below A5.out) SRC.out (fun h => by cases h) rfl (by first | rfl | simp [Act.eval, Act.put]) (Nat.le_trans htl A5.out.size) (by have := EBL.out; omega) (by decide) ?_); intro v7 w7 hO7 hap7; obtain ⟨p7, cc7, rfl, -⟩ := hO7.cut (show (s0.br ++ [(⟨v1, v2⟩ : Brk)]).length = bl + 1 by rw [List.length_append, EBL.out]; rfl); have hgl5 := Nat.lt_of_lt_of_le hg2 A5.out.size; have c67 := (hap7.cells hgl5 HNE.out (A.length * 10 + 6)).trans ((A5.out.cell (p := ⟨gg, A.length * 10 + 6, none⟩) hg2).trans C6.out); have f67 : w7.frozen? ⟨gg, A.length * 10 + 6, none⟩ = false := (show w7.frozen? ⟨gg, A.length * 10 + 6, none⟩ = _ from by simp only [World.frozen?, hap7.far gg hgl5 HNE.out]).trans ((A5.out.frozen (p := ⟨gg, A.length * 10 + 6, none⟩) hg2).trans F6.out); have FB := Lib.hid (show Below t w (w7.setCell ⟨gg, A.length * 10 + 6, none⟩ (.slice p7 (bl + 1) cc7)) from ((A5.out.mono (Nat.le_of_lt htl)).trans (hap7.below.mono (Nat.le_succ t))).setCell (show t ≤ gg by omega) _); have FR := Lib.hid (HRD.out.row2 K0.out (show (w7.setCell ⟨gg, A.length * 10 + 6, none⟩ (.slice p7 (bl + 1) cc7)).heap[t]? = w.heap[t]? from by rw [setCell_far _ (by omega), hap7.below.block t (Nat.lt_succ_self t), A5.out.block t htl]) (by rw [setCell_sz]; exact Nat.lt_of_lt_of_le htl (Nat.le_trans A5.out.size hap7.size)) (HNX.out _ w7 _ p7 (bl + 1) cc7 ⟨v1, v2⟩ A5.out (Nat.le_refl _) hO7 rfl hap7)); clear hO7 hap7)
    | fail)
  go_ret2
  exact ⟨rfl, FR.out, FB.out⟩

end Go.Proofs.YtflcdkibjakciaaGreatDoor
