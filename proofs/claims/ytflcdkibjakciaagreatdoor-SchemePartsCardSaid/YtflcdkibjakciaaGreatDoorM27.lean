/-
  MERGED (mergek.py): the texts T37, Wx, T38.
-/
import Derived.Test.YtflcdkibjakciaaGreatDoorM26
import Derived.Deep.RegionHeld3
import Derived.Test.YtflcdkibjakciaaGreatDoorW8
import Derived.Test.YtflcdkibjakciaaGreatDoorM13

namespace Go.Proofs.YtflcdkibjakciaaGreatDoor
open Go.RowKit Te Sc

/-- What a line behind the rates leaves. -/
def NotG (t : Nat) (ws : List (List UInt8)) (A : List Sch) (s0 : Sch) (last : Int) (w : World) : Ending → World → Prop :=
  match ws with
  | [] => StE t 4 w
  | x :: r => if x = wNot then (match r with | [a] => (match num0 a 15 with | some v => if v ≤ last then StE t 4 w else StG 159 t (A ++ [{ s0 with ex := s0.ex + 2 ^ v.toNat }]) v w | none => StE t 4 w) | _ => StE t 4 w)
    else HeadG t (headP (x :: r)) (A ++ [s0]) w

theorem or_pow {x : Int} {n : Nat} (h0 : 0 ≤ x) (h1 : x < 2 ^ n) (hn : n ≤ 15) : bits BinOp.or IntKind.i64 x (2 ^ n) = x + 2 ^ n := by
  obtain ⟨u, rfl⟩ := Int.eq_ofNat_of_zero_le h0
  have h1' : u < 2 ^ n := by exact_mod_cast h1
  have hp : (2 : Nat) ^ n ≤ 32768 := by
    have : (2 : Nat) ^ n ≤ 2 ^ 15 := Nat.pow_le_pow_right (by omega) hn
    omega
  have e1 : bits BinOp.or IntKind.i64 (u : Int) (2 ^ n) = IntKind.i64.wrap (((BitVec.ofInt 64 (u : Int) ||| BitVec.ofInt 64 (2 ^ n) : BitVec 64).toNat : Nat) : Int) := rfl
  have e2 : ((2 : Int) ^ n) = ((2 ^ n : Nat) : Int) := by push_cast; rfl
  rw [e1, e2, BitVec.toNat_or, BitVec.toNat_ofInt, BitVec.toNat_ofInt]
  have e3 : ((u : Int) % ((2 ^ 64 : Nat) : Int)).toNat = u := by
    rw [show ((2 ^ 64 : Nat) : Int) = 18446744073709551616 from by decide]; omega
  have e4 : (((2 ^ n : Nat) : Int) % ((2 ^ 64 : Nat) : Int)).toNat = 2 ^ n := by
    rw [show ((2 ^ 64 : Nat) : Int) = 18446744073709551616 from by decide]; omega
  rw [e3, e4]
  have e5 : u ||| 2 ^ n = u + 2 ^ n := by
    have := Nat.two_pow_add_eq_or_of_lt h1' 1
    rw [Nat.mul_one] at this
    rw [Nat.or_comm, ← this, Nat.add_comm]
  rw [e5, IntKind.wrap_i64]
  omega

theorem numB_from {a : List UInt8} {last : Int} (hl : -1 ≤ last) : (match num0 a 15 with | some v => if v ≤ last then none else some v | none => none) = (if Wo.numB a (last + 1) 15 = true then some (Wo.numV a (last + 1) 15) else none) := by
  unfold num0 Wo.numB Wo.numV
  cases Wo.numO a with
  | none => simp
  | some v =>
    simp only
    by_cases h : v < 0 ∨ 15 < v
    · rw [if_pos h]
      simp only
      rw [if_pos (show v < last + 1 ∨ 15 < v by omega)]
      simp
    · rw [if_neg h]
      simp only
      by_cases h2 : v ≤ last
      · rw [if_pos h2, if_pos (show v < last + 1 ∨ 15 < v by omega)]; simp
      · rw [if_neg h2, if_neg (show ¬ (v < last + 1 ∨ 15 < v) by omega), if_neg (show ¬ (v < last + 1 ∨ 15 < v) by omega)]; simp

set_option maxRecDepth 100000 in
set_option maxHeartbeats 8000000 in
theorem not17_any (t : Nat) (A : List Sch) (s0 : Sch) (last : Int) (q : Option Addr) (x : ByteArray) (r : List ByteArray) (n c : Nat) (w : World) (hn : (x :: r).length = n) (h : Recs SB w q (x :: r)) (hz : ∀ y ∈ x :: r, y.size ≤ 16384) (hE : Env w) (hR : RdrAt w t (A ++ [s0]) last) (hA : A.length ≤ 900) (hl0 : -1 ≤ last) (hl1 : last ≤ 15) (hx0 : 0 ≤ s0.ex) (hx1 : s0.ex < 2 ^ (last + 1).toNat) :
    Calls Tryz.prog 159 #[.pointer (some ⟨t, 0, none⟩), .slice q n c] w (NotG t (ll (x :: r)) A s0 last w) := by
  have hl := h.len
  have htl := hR.lt
  have HD := Lib.hid (fun (hxn : ¬ x.data.toList = wNot) => show Calls Tryz.prog 43 #[.pointer (some ⟨t, 0, none⟩), .slice q n c] w (HeadG t (headP (ll (x :: r))) (A ++ [s0]) w) from head17_any t (A ++ [s0]) last q (x :: r) n c w hn h (by simp) hz hE hR (by rw [List.length_append]; simp; omega))
  obtain ⟨B, O, rfl, hBl, g0⟩ := h.word (j := 0) (by simp)
  simp only [List.getElem_cons_zero, Nat.add_zero] at g0
  have hn0 : 0 < (n : Int) := by rw [List.length_cons] at hn; omega
  show Calls _ _ _ _ (if x.data.toList = wNot then (match ll r with | [a] => (match num0 a 15 with | some v => if v ≤ last then StE t 4 w else StG 159 t (A ++ [{ s0 with ex := s0.ex + 2 ^ v.toNat }]) v w | none => StE t 4 w) | _ => StE t 4 w) else HeadG t (headP (ll (x :: r))) (A ++ [s0]) w)
  by_cases hx : x.data.toList = wNot
  rotate_left
  · rw [if_neg hx]
    have HDX := Lib.hid (HD.out hx)
    obtain ⟨hp, ehp⟩ : ∃ o, headP (ll (x :: r)) = o := ⟨_, rfl⟩
    rw [ehp] at HDX ⊢
    have ez : (x.toList == [110, 111, 116]) = false := by rw [lit_eq]; exact decide_eq_false hx
    clear h hE hR hz hx hl hn HD ehp
    cases hp with
    | none =>
      unfold HeadG StE at HDX
      show Calls _ _ _ _ (StE t 4 w)
      simp only at HDX
      go_enter Tryz.func159, Tryz.ntmps159
      go_wp2_with (first | (go_at_call 43; (with_reducible refine Calls.mono HDX.out ?_); rintro e w1 ⟨⟨f, rfl⟩, hb1⟩; have HB1 := Lib.hid hb1; clear hb1) | fail)
      go_ret2
      exact ⟨⟨_, rfl⟩, HB1.out⟩
    | some s =>
      unfold HeadG StG at HDX
      show Calls _ _ _ _ (StG 86 t (A ++ [s0] ++ [s]) (-1) w)
      simp only at HDX
      go_enter Tryz.func159, Tryz.ntmps159
      go_wp2_with (first | (go_at_call 43; (with_reducible refine Calls.mono HDX.out ?_); rintro e w1 ⟨rfl, hr1, hb1⟩; have HB1 := Lib.hid hb1; have HR1 := Lib.hid hr1; clear hb1 hr1) | fail)
      go_ret2
      exact ⟨rfl, HR1.out, HB1.out⟩
  rw [if_pos hx]
  have ez : (x.toList == [110, 111, 116]) = true := by rw [lit_eq]; exact decide_eq_true hx
  clear HD
  by_cases h2 : n = 2
  rotate_left
  · have e : (match ll r with | [a] => (match num0 a 15 with | some v => if v ≤ last then StE t 4 w else StG 159 t (A ++ [{ s0 with ex := s0.ex + 2 ^ v.toNat }]) v w | none => StE t 4 w) | _ => StE t 4 w) = StE t 4 w := by
      match r, hn with
      | [], _ => rfl
      | [a], hn => exact absurd hn.symm h2
      | a :: b :: r, _ => rfl
    rw [e]
    have d3 : ((n : Int) != 2) = true := by simp; omega
    clear h hE hR hz hx hl hn e
    go_enter Tryz.func159, Tryz.ntmps159
    go_wp2
    go_ret2
    exact StE.nil _ _ _ _ (Below.refl _ _)
  subst h2
  obtain ⟨a, rfl⟩ : ∃ a, r = [a] := by
    match r, hn with
    | [a], _ => exact ⟨a, rfl⟩
  obtain ⟨B1, O1, e1, -, g1⟩ := h.word (j := 1) (by simp)
  cases e1
  simp only [List.getElem_cons_zero, List.getElem_cons_succ] at g1
  have haz := hz a (by simp)
  have hwr : IntKind.i64.wrap (last + 1) = last + 1 := by rw [IntKind.wrap_i64]; omega
  obtain ⟨l1, el1⟩ : ∃ l, last + 1 = l := ⟨_, rfl⟩
  have NU1 := Lib.hid (fun (W : World) (hW : Below w.heap.size w W) => show Calls Tryz.prog 84 #[.string a, .int .i64 l1, .int .i64 15] W (fun e w' => e = .returned (.tuple #[.int .i64 (Wo.numV a.data.toList l1 15), .bool (Wo.numB a.data.toList l1 15)]) ∧ Below W.heap.size W w') from number_any a l1 15 W (hE.below hW) (by omega))
  have hnf := numB_from (a := a.data.toList) hl0
  rw [el1] at hnf
  show Calls _ _ _ _ (match num0 a.data.toList 15 with | some v => if v ≤ last then StE t 4 w else StG 159 t (A ++ [{ s0 with ex := s0.ex + 2 ^ v.toNat }]) v w | none => StE t 4 w)
  have hres : (match num0 a.data.toList 15 with | some v => if v ≤ last then StE t 4 w else StG 159 t (A ++ [{ s0 with ex := s0.ex + 2 ^ v.toNat }]) v w | none => StE t 4 w) = (if Wo.numB a.data.toList l1 15 = true then StG 159 t (A ++ [{ s0 with ex := s0.ex + 2 ^ (Wo.numV a.data.toList l1 15).toNat }]) (Wo.numV a.data.toList l1 15) w else StE t 4 w) := by
    cases e0 : num0 a.data.toList 15 with
    | none =>
      rw [e0] at hnf
      simp only at hnf ⊢
      cases e1 : Wo.numB a.data.toList l1 15
      · simp
      · rw [e1] at hnf; simp at hnf
    | some v =>
      rw [e0] at hnf
      simp only at hnf ⊢
      by_cases hv : v ≤ last
      · rw [if_pos hv] at hnf ⊢
        cases e1 : Wo.numB a.data.toList l1 15
        · simp
        · rw [e1] at hnf; simp at hnf
      · rw [if_neg hv] at hnf ⊢
        cases e1 : Wo.numB a.data.toList l1 15
        · rw [e1] at hnf; simp at hnf
        · rw [e1] at hnf
          simp only [if_true] at hnf ⊢
          injection hnf with hnf
          rw [← hnf]
  rw [hres]
  have hbd : Wo.numB a.data.toList l1 15 = true → l1 ≤ Wo.numV a.data.toList l1 15 ∧ Wo.numV a.data.toList l1 15 ≤ 15 := by
    unfold Wo.numB Wo.numV
    cases Wo.numO a.data.toList with
    | none => simp
    | some v =>
      simp only
      split
      · simp
      · intro _; omega
  obtain ⟨k1, ek1⟩ : ∃ z, Wo.numB a.data.toList l1 15 = z := ⟨_, rfl⟩
  obtain ⟨v1, ev1⟩ : ∃ z, Wo.numV a.data.toList l1 15 = z := ⟨_, rfl⟩
  rw [ek1, ev1] at NU1 hbd
  rw [ek1, ev1]
  have HRD := Lib.hid hR
  obtain ⟨gg, cc, k0, hg1, hg2, hBD, ⟨rr, hC, hex⟩, hf⟩ := hR.lastRow
  have c8 := hC.c8
  rw [hex] at c8
  have C8 := Lib.hid c8
  have F8 := Lib.hid (hf (A.length * 10 + 8))
  have K0 := Lib.hid k0
  have HBD := Lib.hid hBD
  have hA1 : A.length + 1 ≤ 9223372036854775807 := by omega
  have NOW := Lib.hid (fun (W : World) (hW : Below w.heap.size w W) => now17_any t gg A.length cc W ((hW.cell (p := ⟨t, 0, none⟩) htl).trans K0.out) hA1)
  have cl := hR.last
  have L1 := Lib.hid cl
  have F1 := Lib.hid (hR.fr 1)
  have G1 := Lib.hid g1
  have NUd := Lib.hid (NU1.out w.drew (Below.refl _ _).drew)
  have hll : -9223372036854775808 ≤ l1 := by omega
  clear h hE hz hx hl hn hnf hres ek1 ev1 hR hBD hC hf k0 c8 hex
  have hwl : IntKind.i64.wrap l1 = l1 := by rw [IntKind.wrap_i64]; omega
  clear hwr
  cases k1
  · rw [if_neg (by simp)]
    show Calls _ _ _ _ (StE t 4 w)
    go_enter Tryz.func159, Tryz.ntmps159
    go_wp2_with fail
    go_region_held3 (fun W => W.cell? ⟨B, O + 1, none⟩ = some (.string a) ∧ W.cell? ⟨t, 1, none⟩ = some (.int .i64 last))
      (first | exact ⟨g1, cl⟩ | exact ⟨(HB2.out.cell (p := ⟨B, O + 1, none⟩) hBl).trans G1.out, (HB2.out.cell (p := ⟨t, 1, none⟩) htl).trans L1.out⟩ | fail)
      (first | (go_at_call 84; (with_reducible refine Calls.mono NUd.out ?_); rintro e w2 ⟨rfl, hb2⟩; have HB2 := Lib.hid (bdrew hb2); clear hb2) | fail)
    go_wp2
    go_ret2
    exact StE.nil _ _ _ _ (HB2.out.mono (Nat.le_of_lt htl))
  obtain ⟨hv0, hv1⟩ := hbd rfl
  have hv00 : 0 ≤ v1 := by omega
  rw [if_pos rfl]
  show Calls _ _ _ _ (StG 159 t (A ++ [{ s0 with ex := s0.ex + 2 ^ v1.toNat }]) v1 w)
  have hp15 : (2 : Int) ^ v1.toNat ≤ 32768 ∧ 0 < (2 : Int) ^ v1.toNat := by
    have h1 : (2 : Nat) ^ v1.toNat ≤ 2 ^ 15 := Nat.pow_le_pow_right (by omega) (by omega)
    have h2 : (2 : Int) ^ v1.toNat ≤ 2 ^ 15 := by exact_mod_cast h1
    have h3 : (0 : Int) < 2 ^ v1.toNat := Int.pow_pos (by omega)
    omega
  have hwp : IntKind.i64.wrap (2 ^ v1.toNat) = 2 ^ v1.toNat := by rw [IntKind.wrap_i64]; omega
  have hor := or_pow (x := s0.ex) (n := v1.toNat) hx0 (by
    have : (2 : Int) ^ (last + 1).toNat ≤ 2 ^ v1.toNat := by
      have : (2 : Nat) ^ (last + 1).toNat ≤ 2 ^ v1.toNat := Nat.pow_le_pow_right (by omega) (by omega)
      exact_mod_cast this
    omega) (by omega)
  go_enter Tryz.func159, Tryz.ntmps159
  go_wp2_with fail
  go_region_held3 (fun W => W.cell? ⟨B, O + 1, none⟩ = some (.string a) ∧ W.cell? ⟨t, 1, none⟩ = some (.int .i64 last))
    (first | exact ⟨g1, cl⟩ | exact ⟨(HB2.out.cell (p := ⟨B, O + 1, none⟩) hBl).trans G1.out, (HB2.out.cell (p := ⟨t, 1, none⟩) htl).trans L1.out⟩ | fail)
    (first | (go_at_call 84; (with_reducible refine Calls.mono NUd.out ?_); rintro e w2 ⟨rfl, hb2⟩; have HB2 := Lib.hid (bdrew hb2); clear hb2) | fail)
  go_wp2_with fail
  have N2 := Lib.hid (NOW.out w2.drew HB2.out.drew)
  have k8 := (HB2.out.cell (p := ⟨gg, A.length * 10 + 8, none⟩) hg2).trans C8.out
  have f8 := (HB2.out.frozen (p := ⟨gg, A.length * 10 + 8, none⟩) hg2).trans F8.out
  go_region_with ((go_at_call 87; (with_reducible refine Calls.mono N2.out ?_); rintro e wn ⟨rfl, m, rfl⟩))
  have HB5 := Lib.hid (show Below w.heap.size w (w2.drewN (1 + m)) from HB2.out.trans ((drewN_below _ _).mono HB2.out.size))
  have FR := Lib.hid (HRD.out.row2 K0.out (show ((w2.drewN (1 + m)).setCell ⟨gg, A.length * 10 + 8, none⟩ (.int .i64 (s0.ex + 2 ^ v1.toNat))).heap[t]? = w.heap[t]? from by rw [setCell_far _ (by omega), HB5.out.block t htl]) (by rw [setCell_sz]; exact Nat.lt_of_lt_of_le htl HB5.out.size) ((HBD.out.below HB5.out).setEx (s0.ex + 2 ^ v1.toNat) rfl))
  have FL := Lib.hid (FR.out.setLast v1)
  have FB := Lib.hid (show Below t w (((w2.drewN (1 + m)).setCell ⟨gg, A.length * 10 + 8, none⟩ (.int .i64 (s0.ex + 2 ^ v1.toNat))).setCell ⟨t, 1, none⟩ (.int .i64 v1)) from ((HB5.out.mono (Nat.le_of_lt htl)).setCell (show t ≤ gg by omega) _).setCell (Nat.le_refl t) _)
  have r1 := FR.out.last
  have r2 := FR.out.fr 1
  go_wp2
  go_ret2
  exact ⟨rfl, FL.out, FB.out⟩

/-- What a line behind a rate leaves. -/
def MoreG (t : Nat) (ws : List (List UInt8)) (A : List Sch) (s0 : Sch) (last : Int) (w : World) : Ending → World → Prop :=
  match ws with
  | [] => StE t 4 w
  | x :: r => if x = wRate then RateG t (x :: r) A s0 last w else NotG t (x :: r) A s0 last w

/-- Whatever a state function leaves. -/
def AnyG (t : Nat) (o : (Nat × List Sch × Int) ⊕ Int) (w : World) : Ending → World → Prop := match o with | .inl (F, out, last) => StG F t out last w | .inr e => StE t e w

theorem RateG.any (t : Nat) (ws : List (List UInt8)) (A : List Sch) (s0 : Sch) (last : Int) (w : World) : ∃ o, RateG t ws A s0 last w = AnyG t o w := by
  unfold RateG
  split
  · exact ⟨.inr 4, rfl⟩
  · split
    · split
      · exact ⟨.inl (_, _, _), rfl⟩
      · exact ⟨.inr 4, rfl⟩
    · exact ⟨.inr 4, rfl⟩

theorem HeadG.any (t : Nat) (o : Option Sch) (out : List Sch) (w : World) : ∃ o', HeadG t o out w = AnyG t o' w := by
  unfold HeadG
  split
  · exact ⟨.inl (_, _, _), rfl⟩
  · exact ⟨.inr 4, rfl⟩

theorem NotG.any (t : Nat) (ws : List (List UInt8)) (A : List Sch) (s0 : Sch) (last : Int) (w : World) : ∃ o, NotG t ws A s0 last w = AnyG t o w := by
  unfold NotG
  split
  · exact ⟨.inr 4, rfl⟩
  · split
    · split
      · split
        · split
          · exact ⟨.inr 4, rfl⟩
          · exact ⟨.inl (_, _, _), rfl⟩
        · exact ⟨.inr 4, rfl⟩
      · exact ⟨.inr 4, rfl⟩
    · exact HeadG.any _ _ _ _

set_option maxRecDepth 100000 in
set_option maxHeartbeats 2000000 in
theorem more17_any (t : Nat) (A : List Sch) (s0 : Sch) (last : Int) (q : Option Addr) (x : ByteArray) (r : List ByteArray) (n c : Nat) (w : World) (hn : (x :: r).length = n) (h : Recs SB w q (x :: r)) (hz : ∀ y ∈ x :: r, y.size ≤ 16384) (hE : Env w) (hR : RdrAt w t (A ++ [s0]) last) (hA : A.length ≤ 900) (hbl : s0.br.length ≤ 1000) (hl0 : -1 ≤ last) (hl1 : last ≤ 15) (hx0 : 0 ≤ s0.ex) (hx1 : s0.ex < 2 ^ (last + 1).toNat) :
    Calls Tryz.prog 142 #[.pointer (some ⟨t, 0, none⟩), .slice q n c] w (MoreG t (ll (x :: r)) A s0 last w) := by
  have CR := Lib.hid (rate17_any t A s0 last q x r n c w hn h (fun y hy => hz y (List.mem_cons_of_mem _ hy)) hE hR (by omega) hbl)
  have CN := Lib.hid (not17_any t A s0 last q x r n c w hn h hz hE hR hA hl0 hl1 hx0 hx1)
  obtain ⟨B, O, rfl, hBl, g0⟩ := h.word (j := 0) (by simp)
  simp only [List.getElem_cons_zero, Nat.add_zero] at g0
  have hl := h.len
  have hn0 : 0 < (n : Int) := by rw [List.length_cons] at hn; omega
  show Calls _ _ _ _ (if x.data.toList = wRate then RateG t (ll (x :: r)) A s0 last w else NotG t (ll (x :: r)) A s0 last w)
  by_cases hx : x.data.toList = wRate
  · rw [if_pos hx]
    have ez : (x.toList == [114, 97, 116, 101]) = true := by rw [lit_eq]; exact decide_eq_true hx
    obtain ⟨o, eo⟩ := RateG.any t (ll (x :: r)) A s0 last w
    rw [eo] at CR ⊢
    clear h hz hE hR hx hl hn CN eo
    rcases o with ⟨F, out, l⟩ | er
    · unfold AnyG StG at CR
      show Calls _ _ _ _ (StG F t out l w)
      simp only at CR
      go_enter Tryz.func142, Tryz.ntmps142
      go_wp2_with (first | (go_at_call 117; (with_reducible refine Calls.mono CR.out ?_); rintro e w1 ⟨rfl, hr1, hb1⟩; have HB1 := Lib.hid hb1; have HR1 := Lib.hid hr1; clear hb1 hr1) | fail)
      go_ret2
      exact ⟨rfl, HR1.out, HB1.out⟩
    · unfold AnyG StE at CR
      show Calls _ _ _ _ (StE t er w)
      simp only at CR
      go_enter Tryz.func142, Tryz.ntmps142
      go_wp2_with (first | (go_at_call 117; (with_reducible refine Calls.mono CR.out ?_); rintro e w1 ⟨⟨f, rfl⟩, hb1⟩; have HB1 := Lib.hid hb1; clear hb1) | fail)
      go_ret2
      exact ⟨⟨_, rfl⟩, HB1.out⟩
  · rw [if_neg hx]
    have ez : (x.toList == [114, 97, 116, 101]) = false := by rw [lit_eq]; exact decide_eq_false hx
    obtain ⟨o, eo⟩ := NotG.any t (ll (x :: r)) A s0 last w
    rw [eo] at CN ⊢
    clear h hz hE hR hx hl hn CR eo
    rcases o with ⟨F, out, l⟩ | er
    · unfold AnyG StG at CN
      show Calls _ _ _ _ (StG F t out l w)
      simp only at CN
      go_enter Tryz.func142, Tryz.ntmps142
      go_wp2_with (first | (go_at_call 159; (with_reducible refine Calls.mono CN.out ?_); rintro e w1 ⟨rfl, hr1, hb1⟩; have HB1 := Lib.hid hb1; have HR1 := Lib.hid hr1; clear hb1 hr1) | fail)
      go_ret2
      exact ⟨rfl, HR1.out, HB1.out⟩
    · unfold AnyG StE at CN
      show Calls _ _ _ _ (StE t er w)
      simp only at CN
      go_enter Tryz.func142, Tryz.ntmps142
      go_wp2_with (first | (go_at_call 159; (with_reducible refine Calls.mono CN.out ?_); rintro e w1 ⟨⟨f, rfl⟩, hb1⟩; have HB1 := Lib.hid hb1; clear hb1) | fail)
      go_ret2
      exact ⟨⟨_, rfl⟩, HB1.out⟩

end Go.Proofs.YtflcdkibjakciaaGreatDoor

namespace Go.Proofs.YtflcdkibjakciaaGreatDoor
open Go.RowKit

theorem lnsA_sub : ∀ (l cur x : List UInt8), x ∈ Wo.lnsA cur l → x.Sublist (cur ++ l)
  | [], cur, x, h => by
    rw [Wo.lnsA] at h
    split at h
    · cases h
    · obtain rfl := List.mem_singleton.1 h
      exact List.sublist_append_left _ _
  | c :: r, cur, x, h => by
    rw [Wo.lnsA] at h
    split at h
    · rcases List.mem_cons.1 h with rfl | h
      · exact List.sublist_append_left _ _
      · have := lnsA_sub r [] x h
        exact ((this.trans (List.sublist_cons_self c r)).trans (List.sublist_append_right cur (c :: r)))
    · have := lnsA_sub r (cur ++ [c]) x h
      rwa [List.append_assoc, List.singleton_append] at this

theorem pcs_sub (s : UInt8) : ∀ (l cur x : List UInt8), x ∈ Wo.pcs s cur l → x.Sublist (cur ++ l)
  | [], cur, x, h => by
    rw [Wo.pcs] at h
    obtain rfl := List.mem_singleton.1 h
    exact List.sublist_append_left _ _
  | c :: r, cur, x, h => by
    rw [Wo.pcs] at h
    split at h
    · rcases List.mem_cons.1 h with rfl | h
      · exact List.sublist_append_left _ _
      · have := pcs_sub s r [] x h
        exact ((this.trans (List.sublist_cons_self c r)).trans (List.sublist_append_right cur (c :: r)))
    · have := pcs_sub s r (cur ++ [c]) x h
      rwa [List.append_assoc, List.singleton_append] at this

/-- The words of a right text are short, and plain. -/
theorem word_of_text {s : ByteArray} (h : Wo.sErr s.data.toList = 0) {ws : List ByteArray} (hw : ws ∈ sLines s) {x : ByteArray} (hx : x ∈ ws) : x.size ≤ 16384 ∧ ∀ y ∈ x.data.toList, y.toNat < 128 := by
  unfold sLines Wo.sList at hw
  rw [if_pos h, List.map_map] at hw
  obtain ⟨l, hl, rfl⟩ := List.mem_map.1 hw
  obtain ⟨y, hy, rfl⟩ := List.mem_map.1 hx
  have h1 := lnsA_sub _ _ _ hl
  have h2 : y.Sublist l := by
    unfold Wo.wds at hy
    exact (pcs_sub 32 _ [] y (List.mem_filter.1 hy).1).trans (List.takeWhile_sublist _)
  have h3 : y.Sublist s.data.toList := h2.trans h1
  have h4 : ¬ (16384 < s.data.toList.length ∨ 400 < s.data.toList.count 10) ∧ s.data.toList.all Wo.plainB = true := by
    unfold Wo.sErr at h
    split at h
    · cases h
    · rename_i a
      split at h
      · cases h
      · rename_i b
        refine ⟨a, ?_⟩
        cases e : s.data.toList.all Wo.plainB with
        | true => rfl
        | false => exact absurd (.inr e) b
  refine ⟨?_, fun c hc => ?_⟩
  · rw [← size_len]
    show y.length ≤ _
    have := h3.length_le
    omega
  · have := List.all_eq_true.1 h4.2 c (h3.mem hc)
    unfold Wo.plainB at this
    simp only [Bool.or_eq_true, beq_iff_eq, Bool.and_eq_true, decide_eq_true_eq] at this
    rcases this with rfl | ⟨-, h⟩
    · decide
    · omega

theorem lnsA_count : ∀ (l cur : List UInt8), (l ≠ [] → l.getLast? = some 10) → (l = [] → cur = []) → (Wo.lnsA cur l).length = l.count 10
  | [], cur, _, h => by rw [Wo.lnsA, if_pos (h rfl)]; rfl
  | c :: r, cur, h, _ => by
    have hl := h (by simp)
    have hr : r ≠ [] → r.getLast? = some 10 := fun hn => by
      cases r with
      | nil => exact absurd rfl hn
      | cons a r => rw [List.getLast?_cons_cons] at hl; exact hl
    rw [Wo.lnsA]
    by_cases hc : c = 10
    · subst hc
      rw [if_pos rfl, List.length_cons, lnsA_count r [] hr (fun _ => rfl), List.count_cons_self]
    · rw [if_neg hc, lnsA_count r (cur ++ [c]) hr (fun e => by subst e; simp at hl; exact absurd hl hc), List.count_cons_of_ne hc]

/-- A text has as many lines as ends of lines, and at most 400. -/
theorem lines_count {s : ByteArray} (h : Wo.sErr s.data.toList = 0) : (sLines s).length = s.data.toList.count 10 ∧ s.data.toList.count 10 ≤ 400 ∧ s.size ≤ 16384 := by
  have h1 : ¬ (16384 < s.data.toList.length ∨ 400 < s.data.toList.count 10) := fun hh => by rw [sErr_long hh] at h; cases h
  have h2 : ¬ ((s.data.toList ≠ [] ∧ s.data.toList.getLast? ≠ some 10) ∨ s.data.toList.all Wo.plainB = false) := fun hh => by rw [sErr_form h1 hh] at h; cases h
  refine ⟨?_, by omega, by have := size_len s; omega⟩
  unfold sLines Wo.sList
  rw [if_pos h, List.length_map, List.length_map]
  unfold Wo.lns
  refine lnsA_count _ _ (fun hn => ?_) fun _ => rfl
  by_cases e : s.data.toList.getLast? = some 10
  · exact e
  · exact absurd (.inl ⟨hn, e⟩) h2

end Go.Proofs.YtflcdkibjakciaaGreatDoor

namespace Go.Proofs.YtflcdkibjakciaaGreatDoor
open Go.RowKit Te Sc

set_option maxHeartbeats 2000000 in
theorem done17_nil (t : Nat) (last : Int) (w : World) (hR : RdrAt w t [] last) : Calls Tryz.prog 44 #[.pointer (some ⟨t, 0, none⟩)] w (BoolG true w) := by
  obtain ⟨⟨v, h0, hB⟩, -, -, -⟩ := hR
  obtain ⟨R, hRl, hOR, -⟩ := hB.rows
  obtain ⟨p, c, rfl, -⟩ := hOR.cut hRl
  clear hB hOR
  go_enter Tryz.func44, Tryz.ntmps44
  go_wp2
  go_ret
  exact ⟨rfl, Below.refl _ _⟩

set_option maxHeartbeats 2000000 in
theorem done17_snoc (t : Nat) (A : List Sch) (s0 : Sch) (last : Int) (w : World) (hR : RdrAt w t (A ++ [s0]) last) (hA : A.length ≤ 1000) : Calls Tryz.prog 44 #[.pointer (some ⟨t, 0, none⟩)] w (BoolG (decide (s0.br ≠ [])) w) := by
  have htl := hR.lt
  obtain ⟨gg, cc, k0, hg1, hg2, hBD, -, -⟩ := hR.lastRow
  obtain ⟨bp, bc, c6, -, -, -⟩ := hBD.brackets rfl
  have hA1 : A.length + 1 ≤ 9223372036854775807 := by omega
  have NOW := Lib.hid (now17_any t gg A.length cc w k0 hA1)
  have hz : ((A.length : Int) + 1 == 0) = false := beq_eq_false_iff_ne.2 (by omega)
  have hz2 : (((A.length + 1 : Nat) : Int) == 0) = false := beq_eq_false_iff_ne.2 (by omega)
  have C6 := Lib.hid c6
  have hgt : decide (0 < s0.br.length) = decide (s0.br ≠ []) := by
    rw [decide_eq_decide]
    constructor
    · intro h e; rw [e] at h; simp at h
    · intro h; have := List.length_pos_iff.2 h; omega
  obtain ⟨bl, ebl⟩ : ∃ l, s0.br.length = l := ⟨_, rfl⟩
  rw [ebl] at C6 hgt
  clear hR hBD c6 ebl
  go_enter Tryz.func44, Tryz.ntmps44
  go_wp2_with (first | (go_at_call 87; (with_reducible refine Calls.mono NOW.out ?_); rintro e w4 ⟨rfl, m4, hm4⟩; have HB4 := Lib.hid (show Below w.heap.size w w4 from hm4 ▸ (drewN_below _ _)); have c64 := (HB4.out.cell (p := ⟨gg, A.length * 10 + 6, none⟩) hg2).trans C6.out; clear hm4) | fail)
  go_ret
  exact ⟨ret_bool (by simp), HB4.out⟩

/-- The function of a state. -/
def fnS : Nat → Nat | 0 => 43 | 1 => 86 | 2 => 117 | 3 => 142 | _ => 159

def StepG (t : Nat) (o : PS ⊕ Int) (w : World) : Ending → World → Prop := match o with | .inl st => StG (fnS st.state) t st.out st.last w | .inr er => StE t er w

theorem step_head' {st : PS} {x : List UInt8} {r : List (List UInt8)} (h : st.state = 0 ∨ (3 ≤ st.state ∧ x ≠ wNot ∧ (x ≠ wRate ∨ st.state ≠ 3))) : stepP st (x :: r) = match headP (x :: r) with | some s => .inl ⟨st.out ++ [s], 1, -1⟩ | none => .inr 4 := by
  rw [stepP.eq_def]
  unfold headP
  dsimp only
  by_cases hx : x = wScheme
  · rw [if_pos ⟨hx, by omega⟩, if_pos hx]
    cases headR r <;> rfl
  · rw [if_neg (fun e => hx e.1), if_neg hx]
    simp only
    rw [if_neg (fun e => by omega), if_neg (fun e => by
      rcases h with h | ⟨h, h2, h3⟩
      · omega
      · rcases h3 with h3 | h3
        · exact h3 e.1
        · omega), if_neg (fun e => by
      rcases h with h | ⟨h, h2, h3⟩
      · omega
      · exact h2 e.1)]

theorem StepG.head {t : Nat} {st : PS} {o : Option Sch} {w : World} : StepG t (match o with | some s => .inl ⟨st.out ++ [s], 1, -1⟩ | none => .inr 4) w = HeadG t o st.out w := by
  cases o <;> rfl

theorem StepG.cond {t : Nat} {st : PS} {x : List UInt8} {r : List (List UInt8)} {A : List Sch} {s0 : Sch} {w : World} (h : st.state = 1) (ho : st.out = A ++ [s0]) : StepG t (stepP st (x :: r)) w = CondG t (x :: r) A s0 st.last w := by
  rw [stepP.eq_def]
  unfold CondG
  dsimp only
  rw [if_neg (fun e => by omega)]
  by_cases hx : x = wIf
  · rw [if_pos ⟨hx, h⟩, if_pos hx]
    cases condR r with
    | inl c => simp only; rw [ho, onLast_snoc]; rfl
    | inr e => rfl
  · rw [if_neg (fun e => hx e.1), if_neg hx, if_neg (fun e => by omega), if_neg (fun e => by omega)]
    rfl

theorem StepG.rate {t : Nat} {st : PS} {x : List UInt8} {r : List (List UInt8)} {A : List Sch} {s0 : Sch} {w : World} (h : st.state = 2 ∨ st.state = 3 ∧ x = wRate) (ho : st.out = A ++ [s0]) : StepG t (stepP st (x :: r)) w = RateG t (x :: r) A s0 st.last w := by
  rw [stepP.eq_def]
  unfold RateG
  dsimp only
  have hns : ¬ (x = wScheme ∧ (st.state = 0 ∨ 3 ≤ st.state)) := fun e => by
    rcases h with h | ⟨h, h2⟩
    · omega
    · rw [h2] at e; exact absurd e.1 (by decide)
  rw [if_neg hns, if_neg (fun e => by omega)]
  by_cases hx : x = wRate
  · rw [if_pos ⟨hx, by omega⟩, if_pos hx]
    cases rateR r with
    | some b => simp only; rw [ho, onLast_snoc]; rfl
    | none => rfl
  · have h2 : st.state = 2 := by
      rcases h with h | ⟨_, h2⟩
      · exact h
      · exact absurd h2 hx
    rw [if_neg (fun e => hx e.1), if_neg hx, if_neg (fun e => by omega)]
    rfl

theorem StepG.not {t : Nat} {st : PS} {x : List UInt8} {r : List (List UInt8)} {A : List Sch} {s0 : Sch} {w : World} (h : 3 ≤ st.state) (hx3 : x ≠ wRate ∨ st.state ≠ 3) (ho : st.out = A ++ [s0]) : StepG t (stepP st (x :: r)) w = NotG t (x :: r) A s0 st.last w := by
  by_cases hx : x = wNot
  · subst hx
    rw [stepP.eq_def]
    unfold NotG
    dsimp only
    rw [if_neg (fun e => absurd e.1 (by decide)), if_neg (fun e => absurd e.1 (by decide)), if_neg (fun e => absurd e.1 (by decide)), if_pos ⟨rfl, h⟩]
    match r with
    | [] => rfl
    | [a] =>
      simp only
      cases num0 a 15 with
      | none => rfl
      | some v =>
        simp only
        by_cases hv : v ≤ st.last
        · rw [if_pos hv, if_pos hv]; rfl
        · rw [if_neg hv, if_neg hv, ho, onLast_snoc]; rfl
    | a :: b :: r => rfl
  · rw [step_head' (.inr ⟨h, hx, hx3⟩), StepG.head]
    unfold NotG
    simp only
    rw [if_neg hx, ho]

/-- One line, from whatever state. -/
theorem step17_any {k : Nat} (t : Nat) (st : PS) (l : Int) (q : Option Addr) (x : ByteArray) (r : List ByteArray) (n c : Nat) (w : World) (hg : GoodS k st) (hk : k ≤ 800) (hn : (x :: r).length = n) (h : WSl w q c (x :: r)) (hz : ∀ y ∈ x :: r, y.size ≤ 16384) (hrl : r.length ≤ 1000000) (hE : Env w) (hR : RdrAt w t st.out l) (hl : st.state ≠ 0 → l = st.last) (ht : gtop < t) :
    Calls Tryz.prog (fnS st.state) #[.pointer (some ⟨t, 0, none⟩), .slice q n c] w (StepG t (stepP st (ll (x :: r))) w) := by
  have hlen := hg.len
  by_cases s0 : st.state = 0
  · have e : stepP st (ll (x :: r)) = match headP (ll (x :: r)) with | some s => .inl ⟨st.out ++ [s], 1, -1⟩ | none => .inr 4 := step_head' (.inl s0)
    rw [e, StepG.head, s0]
    exact head17_any t st.out l q (x :: r) n c w hn h.recs (by simp) hz hE hR (by omega)
  obtain ⟨A, s, ho⟩ := snoc_of (hg.some s0)
  have hAl : A.length ≤ 800 := by rw [ho, List.length_append] at hlen; simp at hlen; omega
  have hbl : s.br.length ≤ 800 := by have := (hg.each s (by rw [ho]; simp)).1; omega
  obtain ⟨hx0, hx1⟩ := hg.ex A s ho
  rw [ho, hl s0] at hR
  by_cases s1 : st.state = 1
  · rw [show StepG t (stepP st (ll (x :: r))) w = _ from StepG.cond s1 ho, s1]
    exact cond17_any t A s st.last q x r n c w hn h (fun y hy => hz y (List.mem_cons_of_mem _ hy)) hrl hE hR (by omega) ht
  by_cases s2 : st.state = 2
  · rw [show StepG t (stepP st (ll (x :: r))) w = _ from StepG.rate (.inl s2) ho, s2]
    exact rate17_any t A s st.last q x r n c w hn h.recs (fun y hy => hz y (List.mem_cons_of_mem _ hy)) hE hR (by omega) (by omega)
  by_cases s3 : st.state = 3
  · rw [s3]
    have hm := more17_any t A s st.last q x r n c w hn h.recs hz hE hR (by omega) (by omega) hg.last.1 hg.last.2 hx0 hx1
    have e : MoreG t (ll (x :: r)) A s st.last w = StepG t (stepP st (ll (x :: r))) w := by
      show (if x.data.toList = wRate then RateG t (ll (x :: r)) A s st.last w else NotG t (ll (x :: r)) A s st.last w) = _
      by_cases hx : x.data.toList = wRate
      · rw [if_pos hx]; exact (StepG.rate (.inr ⟨s3, hx⟩) ho).symm
      · rw [if_neg hx]; exact (StepG.not (by omega) (.inl hx) ho).symm
    rw [← e]
    exact hm
  · have h4 : st.state = 4 := by have := hg.four; omega
    rw [show StepG t (stepP st (ll (x :: r))) w = _ from StepG.not (by omega) (.inr s3) ho, h4]
    exact not17_any t A s st.last q x r n c w hn h.recs hz hE hR (by omega) hg.last.1 hg.last.2 hx0 hx1

end Go.Proofs.YtflcdkibjakciaaGreatDoor
