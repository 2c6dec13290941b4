/-
  PACKED (pack8.py): what is needed of the texts Pe, Aq, Pm, Hp, Hi, Ps, Pd, Pr, Pk.
-/
import Derived.Test.YtmlfcpglhipjgaaGreatM0
open Go.Value renaming int → I
open Go.IntKind renaming i64 → O
namespace Go.Proofs.YtmlfcpglhipjgaaGreat.Ex
def fits (a b : Int) : Bool := decide (-1125899906842624 ≤ a) && decide (a ≤ 1125899906842624) && decide (1 ≤ b) && decide (b ≤ 1099511627776)
theorem fits_iff {a b : Int} : fits a b = true ↔ -1125899906842624 ≤ a ∧ a ≤ 1125899906842624 ∧ 1 ≤ b ∧ b ≤ 1099511627776 := by
 unfold fits; simp [and_assoc]
theorem fits_of {a b : Int} (h1 : -1125899906842624 ≤ a) (h2 : a ≤ 1125899906842624) (h3 : 1 ≤ b) (h4 : b ≤ 1099511627776) : fits a b = true := fits_iff.2 ⟨h1, h2, h3, h4⟩
def down (a b : Int) : Int := if fits a b = true then a / b else 0
def up (a b : Int) : Int := - down (-a) b
theorem tdiv_floor {a b : Int} (hb : 1 ≤ b) : (if a.tmod b < 0 then a.tdiv b - 1 else a.tdiv b) = a / b := by
 have h := Int.tdiv_eq_ediv (a := a) (b := b); have h2 := Int.tmod_eq_emod (a := a) (b := b); have e1 := Int.emod_lt_of_pos a (show 0 < b by omega); have e2 := Int.emod_nonneg a (show b ≠ 0 by omega); have hs : b.sign = 1 := Int.sign_eq_one_of_pos (by omega)
 by_cases hc : 0 ≤ a ∨ b ∣ a
 ·rw [if_pos hc] at h h2
  rw [h, h2, if_neg (by omega)]; omega
 ·rw [if_neg hc] at h h2
  have : a % b ≠ 0 := fun e => hc (.inr (Int.dvd_of_emod_eq_zero e))
  have hn : ((b.natAbs : Nat) : Int) = b := by omega
  rw [h, h2, if_pos (by omega), hs]; omega
theorem tdiv_bd {a b : Int} (h : fits a b = true) : -1125899906842624 ≤ a.tdiv b ∧ a.tdiv b ≤ 1125899906842624 := by
 obtain ⟨h1, h2, h3, h4⟩ := fits_iff.1 h; have := Int.natAbs_tdiv_le_natAbs a b; omega
theorem down_bd (a b : Int) : -1125899906842624 ≤ down a b ∧ down a b ≤ 1125899906842624 := by
 unfold down
 split
 ·rename_i h
  obtain ⟨h1, h2, h3, h4⟩ := fits_iff.1 h; refine ⟨?_, ?_⟩
  ·rw [Int.le_ediv_iff_mul_le (by omega)]
   have : -1125899906842624 * b ≤ -1125899906842624 * 1 := Int.mul_le_mul_of_nonpos_left (by omega) h3; omega
  ·by_cases ha : 0 ≤ a
   ·have := Int.ediv_le_self b ha; omega
   ·have := Int.ediv_neg_of_neg_of_pos (show a < 0 by omega) (show 0 < b by omega); omega
 ·omega
end Go.Proofs.YtmlfcpglhipjgaaGreat.Ex
namespace Go.Proofs.YtmlfcpglhipjgaaGreat.As
/-! ### determined -/
structure Fct where
 decl : Int
 due : Int
 season : Int
 kind : Int
 area : Int
 border : Int
def measB (a b : Int) : Bool := decide (0 ≤ a) && (decide (a ≤ 268435456) && (decide (0 ≤ b) && decide (b ≤ 16777216)))
def seenB (k a b : Int) : Bool := decide (0 ≤ k) && (decide (k ≤ 4) && (if k = 1 then measB a b else decide (a = 0) && decide (b = 0)))
def factB (f : Fct) : Bool := decide (0 ≤ f.decl) && (decide (f.decl ≤ 268435456) && (decide (0 ≤ f.due) && (decide (f.due ≤ f.decl) && (decide (-1 ≤ f.season) && (decide (f.season ≤ 1) && seenB f.kind f.area f.border)))))
def chk28 (f : Fct) (width : Int) : Int := if factB f = false then 68 else if width < 0 ∨ 200 < width then 2 else 0
def margin (a b width : Int) : Int := min (Ex.up (b * width) 100) a
def accept (c a b width : Int) : Int := if max (c - a) (a - c) ≤ margin a b width then c else a
def lim (f : Fct) (width : Int) : Option (Int × Int) :=
 if f.kind = 0 then (if f.season = -1 then some (2, 0) else none)
 else if f.kind = 4 then some (3, 0)
 else if f.kind = 3 then some (4, 0)
 else if f.kind = 2 then some (5, 0)
 else some (6, accept f.decl f.area f.border width)
def det1 (f : Fct) : Int × Int := if f.due < f.decl then (f.due, 1) else (f.decl, 0)
def det (f : Fct) (width : Int) : Int × Int :=
 match lim f width with
 | some (r, a) => if a < (det1 f).1 then (a, r) else det1 f
 | none => det1 f
structure FactOk (f : Fct) : Prop where
 d0 : 0 ≤ f.decl
 d1 : f.decl ≤ 268435456
 u0 : 0 ≤ f.due
 u1 : f.due ≤ f.decl
 s0 : -1 ≤ f.season
 s1 : f.season ≤ 1
 k0 : 0 ≤ f.kind
 k1 : f.kind ≤ 4
 a0 : 0 ≤ f.area
 a1 : f.area ≤ 268435456
 b0 : 0 ≤ f.border
 b1 : f.border ≤ 16777216
 none : f.kind ≠ 1 → f.area = 0 ∧ f.border = 0
theorem seenB_iff {k a b : Int} : seenB k a b = true ↔ 0 ≤ k ∧ k ≤ 4 ∧ (k = 1 → 0 ≤ a ∧ a ≤ 268435456 ∧ 0 ≤ b ∧ b ≤ 16777216) ∧ (k ≠ 1 → a = 0 ∧ b = 0) := by
 unfold seenB measB
 by_cases h : k = 1
 ·rw [if_pos h]
  simp only [Bool.and_eq_true, decide_eq_true_eq]
  constructor
  ·intro hh; exact ⟨hh.1, hh.2.1, fun _ => hh.2.2, fun e => absurd h e⟩
  ·intro hh; exact ⟨hh.1, hh.2.1, hh.2.2.1 h⟩
 ·rw [if_neg h]
  simp only [Bool.and_eq_true, decide_eq_true_eq]
  constructor
  ·intro hh; exact ⟨hh.1, hh.2.1, fun e => absurd e h, fun _ => hh.2.2⟩
  ·intro hh; exact ⟨hh.1, hh.2.1, hh.2.2.2 h⟩
theorem factOk {f : Fct} (h : factB f = true) : FactOk f := by
 unfold factB at h; simp only [Bool.and_eq_true, decide_eq_true_eq] at h; obtain ⟨h1, h2, h3, h4, h5, h6, h7⟩ := h; obtain ⟨k0, k1, k2, k3⟩ := seenB_iff.1 h7
 by_cases hk : f.kind = 1
 ·obtain ⟨a0, a1, a2, a3⟩ := k2 hk
  exact ⟨h1, h2, h3, h4, h5, h6, k0, k1, a0, a1, a2, a3, k3⟩
 ·obtain ⟨a0, a1⟩ := k3 hk
  exact ⟨h1, h2, h3, h4, h5, h6, k0, k1, by omega, by omega, by omega, by omega, k3⟩
theorem chk28_zero {f : Fct} {width : Int} (h : chk28 f width = 0) : FactOk f ∧ 0 ≤ width ∧ width ≤ 200 := by
 unfold chk28 at h
 split at h
 ·cases h
 ·rename_i h1
  split at h
  ·cases h
  ·exact ⟨factOk (by simpa using h1), by omega, by omega⟩
theorem prod_bd {b width : Int} (b0 : 0 ≤ b) (b1 : b ≤ 16777216) (w0 : 0 ≤ width) (w1 : width ≤ 200) : 0 ≤ b * width ∧ b * width ≤ 3355443200 := by
 refine ⟨Int.mul_nonneg b0 w0, ?_⟩
 have h1 : b * width ≤ 16777216 * width := Int.mul_le_mul_of_nonneg_right b1 w0; omega
theorem FactOk.accept {f : Fct} (h : FactOk f) {width : Int} (_w0 : 0 ≤ width) (_w1 : width ≤ 200) : 0 ≤ accept f.decl f.area f.border width ∧ accept f.decl f.area f.border width ≤ 268435456 := by
 unfold As.accept; have := h.d0; have := h.d1; have := h.a0; have := h.a1
 split <;> omega
theorem FactOk.lim {f : Fct} (h : FactOk f) {width : Int} (w0 : 0 ≤ width) (w1 : width ≤ 200) {r a : Int} (e : lim f width = some (r, a)) : 2 ≤ r ∧ r ≤ 6 ∧ 0 ≤ a ∧ a ≤ 268435456 := by
 have ha := h.accept w0 w1; unfold As.lim at e
 repeat' split at e
 all_goals first | (cases e; done) | (injection e with e; cases e; omega)
theorem FactOk.det {f : Fct} (h : FactOk f) {width : Int} (w0 : 0 ≤ width) (w1 : width ≤ 200) : 0 ≤ (det f width).1 ∧ (det f width).1 ≤ f.decl ∧ ((det f width).2 = 0 ↔ (det f width).1 = f.decl) ∧ 0 ≤ (det f width).2 ∧ (det f width).2 ≤ 6 := by
 have h1 : 0 ≤ (det1 f).1 ∧ (det1 f).1 ≤ f.decl ∧ ((det1 f).2 = 0 ↔ (det1 f).1 = f.decl) ∧ 0 ≤ (det1 f).2 ∧ (det1 f).2 ≤ 6 := by
  unfold det1; have := h.u0; have := h.d0
  split <;> simp <;> omega
 unfold As.det
 cases e : As.lim f width with
 | none => exact h1
 | some x =>
   obtain ⟨r, a⟩ := x; obtain ⟨r0, r1, a0, a1⟩ := h.lim w0 w1 e; simp only
   split
   ·simp only; omega
   ·exact h1
/-! ### lateness -/
structure Lat where
 due : Int
 last : Int
 mille : Int
def chkL (l : Lat) : Int := if l.due < 0 ∨ l.last < l.due ∨ 36864 < l.last ∨ l.mille < 0 ∨ 1000 < l.mille then 66 else 0
def dayB (n : Int) : Bool := decide (0 ≤ n) && decide (n ≤ 36864)
def bef (d : Int) : Int := d / 7 * 5 + min (d % 7) 5
def days (a b : Int) : Int := if dayB a = false ∨ dayB b = false ∨ b ≤ a then 0 else bef (b + 1) - bef (a + 1)
theorem days_bd (a b : Int) : 0 ≤ days a b ∧ days a b ≤ 36864 := by
 unfold days
 split
 ·omega
 ·rename_i h
  unfold dayB at h; simp only [Bool.and_eq_false_iff, decide_eq_false_iff_not] at h; unfold bef; omega
def left (l : Lat) (at_ amount : Int) : Int :=
 if at_ ≤ l.due then amount else if l.last < at_ then 0 else amount * max 0 (1000 - l.mille * days l.due at_) / 1000
def payE (l : Lat) (at_ amount : Int) : Int := if chkL l ≠ 0 then 66 else if dayB at_ = false then 9 else if amount < 0 ∨ 68719476736 < amount then 67 else 0
def payV (l : Lat) (at_ amount : Int) : Int := if payE l at_ amount ≠ 0 then 0 else left l at_ amount
structure LatOk (l : Lat) : Prop where
 d0 : 0 ≤ l.due
 d1 : l.due ≤ l.last
 d2 : l.last ≤ 36864
 m0 : 0 ≤ l.mille
 m1 : l.mille ≤ 1000
theorem latOk {l : Lat} (h : chkL l = 0) : LatOk l := by
 unfold chkL at h
 split at h
 ·cases h
 ·exact ⟨by omega, by omega, by omega, by omega, by omega⟩
theorem share_bd {a p : Int} (a0 : 0 ≤ a) (p0 : 0 ≤ p) (p1 : p ≤ 1000) : 0 ≤ a * p / 1000 ∧ a * p / 1000 ≤ a := by
 have h1 : 0 ≤ a * p := Int.mul_nonneg a0 p0; have h2 : a * p ≤ a * 1000 := Int.mul_le_mul_of_nonneg_left p1 a0; omega
theorem LatOk.left {l : Lat} (h : LatOk l) (at_ : Int) {amount : Int} (a0 : 0 ≤ amount) : 0 ≤ left l at_ amount ∧ left l at_ amount ≤ amount := by
 unfold As.left
 split
 ·omega
 split
 ·omega
 ·have h1 := days_bd l.due at_
  have h2 : 0 ≤ l.mille * days l.due at_ := Int.mul_nonneg h.m0 h1.1; exact share_bd a0 (by omega) (by omega)
end Go.Proofs.YtmlfcpglhipjgaaGreat.As
namespace Go.Proofs.YtmlfcpglhipjgaaGreat.Sh
/-! ### sums -/
def sum : List Int → Int
 | [] => 0
 | x :: l => x + sum l
theorem sum_append (l m : List Int) : sum (l ++ m) = sum l + sum m := by
 induction l with
 | nil => simp [sum]
 | cons x l ih => simp only [List.cons_append, sum, ih]; omega
theorem sum_snoc (l : List Int) (x : Int) : sum (l ++ [x]) = sum l + x := by rw [sum_append]; simp [sum]
end Go.Proofs.YtmlfcpglhipjgaaGreat.Sh
namespace Go.Proofs.YtmlfcpglhipjgaaGreat
open Go.RowKit
theorem wp_tail {P : Program} {id : Nat} {Q : Exit → Act → World → Prop} {a : Act} {w : World} {l : List Oper} (n : Nat) (hm : P.follows .mixedOrders = true) (hB : Region.lexTailB .any l.toArray n = true)
  (h : wpStill P l.toArray w.drew (fun a' => wpList P l.toArray Q (l.drop n) a' w.drew) (l.take n) a) : (Code.region id l.toArray true).wp P Q a w := wp_region_still_tail n hm hB h
theorem Calls.turn {P : Program} {f : FuncId} {args : Array Value} {w : World} {v : Value} (h : Calls P f args w fun e w' => e = .returned v ∧ w = w') : Calls P f args w fun e w' => e = .returned v ∧ w' = w :=
 h.mono fun _ _ h => ⟨h.1, h.2.symm⟩
theorem Calls.same {P : Program} {f : FuncId} {args : Array Value} {w : World} {v : Value} (h : Calls P f args w fun e w' => e = .returned v ∧ w' = w) : Calls P f args w fun e w' => e = .returned v ∧ w = w' :=
 h.mono fun _ _ h => ⟨h.1, h.2.symm⟩
theorem ret_int {k : IntKind} {a b : Int} (h : a = b) : Ending.returned (.int k a) = .returned (.int k b) := by rw [h]
theorem ret_bool {a b : Bool} (h : a = b) : Ending.returned (.bool a) = .returned (.bool b) := by rw [h]
theorem drewN_below (w : World) (n : Nat) : Below w.heap.size w (w.drewN n) := ⟨rfl, rfl, rfl, Nat.le_refl _, fun _ _ => rfl⟩
theorem bnext {B : Nat} {w W w' : World} (h : Below B w W) (hB : B ≤ W.heap.size) (k : Below W.heap.size W w') : Below B w w' := h.trans (k.mono hB)
theorem bdrew {w w1 : World} (h : Below w.drew.heap.size w.drew w1) : Below w.heap.size w w1 := ⟨h.os, h.tape, h.output, h.size, h.block⟩
theorem cell_other {w : World} {a b : Addr} {v u : Value} (h : w.cell? b = some u) (hne : a.block ≠ b.block) : (w.setCell a v).cell? b = some u :=
 (World.cell?_setCell_other _ _ _ _ (fun e => hne (congrArg Addr.block e))).trans h
def Ints (w : World) (p : Option Addr) (zs : List Int) : Prop :=
 zs.length ≤ maxLen ∧ (zs = [] ∨ ∃ b off, p = some ⟨b, off, none⟩ ∧ b < w.heap.size ∧ ∀ j, j < zs.length → w.cell? ⟨b, off + j, none⟩ = some (I O (zs.getD j 0)))
theorem Ints.nil (w : World) (p : Option Addr) : Ints w p [] := ⟨by simp, .inl rfl⟩
theorem Ints.below {w w' : World} {p : Option Addr} {zs : List Int} (h : Ints w p zs) (hb : Below w.heap.size w w') : Ints w' p zs := by
 refine ⟨h.1, ?_⟩
 rcases h.2 with h | ⟨b, off, hp, hl, hc⟩
 ·exact .inl h
 ·exact .inr ⟨b, off, hp, nll hl hb.size, fun j hj => (hb.cell (p := ⟨b, off + j, none⟩) hl).trans (hc j hj)⟩
theorem Ints.at {w : World} {p : Option Addr} {zs : List Int} (h : Ints w p zs) {k : Nat} (hk : k < zs.length) : ∃ b off, p = some ⟨b, off, none⟩ ∧ b < w.heap.size ∧ w.cell? ⟨b, off + k, none⟩ = some (I O (zs.getD k 0)) := by
 rcases h.2 with rfl | ⟨b, off, hp, hl, hc⟩
 ·simp at hk
 ·exact ⟨b, off, hp, hl, hc k hk⟩
theorem Ints.get {w : World} {p : Option Addr} {zs : List Int} (h : Ints w p zs) {k : Nat} (hk : k < zs.length) : ∃ b off x, p = some ⟨b, off, none⟩ ∧ b < w.heap.size ∧ w.cell? ⟨b, off + k, none⟩ = some (I O x) ∧ Hid (zs.getD k 0 = x) := by
 obtain ⟨b, off, h1, h2, h3⟩ := h.at hk; exact ⟨b, off, _, h1, h2, h3, rfl⟩
theorem Ints.len {w : World} {p : Option Addr} {zs : List Int} (h : Ints w p zs) : zs.length ≤ 9223372036854775807 := by
 have := h.1; unfold maxLen at this; omega
theorem Ints.of_cells {w : World} {b off : Nat} {zs : List Int} (hm : zs.length ≤ maxLen) (hb : b < w.heap.size) (h : ∀ j, j < zs.length → w.cell? ⟨b, off + j, none⟩ = some (I O (zs.getD j 0))) : Ints w (some ⟨b, off, none⟩) zs :=
 ⟨hm, .inr ⟨b, off, rfl, hb, h⟩⟩
theorem getD_map_range (f : Nat → Int) (n j : Nat) (hj : j < n) : ((List.range n).map f).getD j 0 = f j := by
 simp [List.getD_eq_getElem?_getD, hj]
theorem sum_take_succ {l : List Int} {k : Nat} (hk : k < l.length) : Sh.sum (l.take (k + 1)) = Sh.sum (l.take k) + l.getD k 0 := by
 rw [tsg hk, Sh.sum_snoc, List.getD_eq_getElem?_getD, List.getElem?_eq_getElem hk]; rfl
theorem Ints.lit (w : World) (T : TypeId) (l : List Int) (hl : l.length ≤ maxLen) : Ints (w.alloc (.cells (l.map (Value.int .i64)).toArray T)) (some ⟨w.heap.size, 0, none⟩) l := by
 refine Ints.of_cells hl (by simp) fun j hj => ?_
 rw [Nat.zero_add, cwn]
 simp [List.getD_eq_getElem?_getD, hj]
def Row (w : World) (b n : Nat) (f : Nat → Value) : Prop := b < w.heap.size ∧ ∀ j, j < n → w.cell? ⟨b, j, none⟩ = some (f j) ∧ w.frozen? ⟨b, j, none⟩ = false
theorem Row.below {w w' : World} {b n : Nat} {f : Nat → Value} (h : Row w b n f) (hb : Below w.heap.size w w') : Row w' b n f :=
 ⟨nll h.1 hb.size, fun j hj => ⟨(hb.cell (p := ⟨b, j, none⟩) h.1).trans (h.2 j hj).1, (hb.frozen (p := ⟨b, j, none⟩) h.1).trans (h.2 j hj).2⟩⟩
theorem Row.congr {w : World} {b n : Nat} {f g : Nat → Value} (h : Row w b n f) (e : ∀ j, j < n → f j = g j) : Row w b n g :=
 ⟨h.1, fun j hj => by rw [← e j hj]; exact h.2 j hj⟩
theorem Row.set {w : World} {b n i : Nat} {f : Nat → Value} (h : Row w b n f) (hi : i < n) (v : Value) : Row (w.setCell ⟨b, i, none⟩ v) b n fun j => if j = i then v else f j := by
 refine ⟨by simpa [World.setCell] using h.1, fun j hj => ⟨?_, by rw [World.frozen?_setCell]; exact (h.2 j hj).2⟩⟩
 show _ = some (if j = i then v else f j)
 by_cases e : j = i
 ·subst e
  rw [if_pos rfl]; exact World.cell?_setCell_same _ _ _ (h.2 j hj).1
 ·rw [if_neg e, World.cell?_setCell_other _ _ _ _ (by intro e'; simp only [Addr.mk.injEq] at e'; exact e e'.2.1.symm)]
  exact (h.2 j hj).1
theorem Row.other {w : World} {b c n i : Nat} {f : Nat → Value} (h : Row w b n f) (hne : c ≠ b) (v : Value) : Row (w.setCell ⟨c, i, none⟩ v) b n f := by
 refine ⟨by simpa [World.setCell] using h.1, fun j hj => ⟨?_, by rw [World.frozen?_setCell]; exact (h.2 j hj).2⟩⟩
 rw [World.cell?_setCell_other _ _ _ _ (by intro e'; simp only [Addr.mk.injEq] at e'; exact hne e'.1)]; exact (h.2 j hj).1
theorem Row.alloc {w : World} {b n : Nat} {f : Nat → Value} (h : Row w b n f) (o : Obj) : Row (w.alloc o) b n f :=
 h.below ((brf _ _).alloc mle o)
theorem Row.made (w : World) (n : Nat) (T : TypeId) (z : Value) : Row (w.alloc (.cells (madeCells #[z] n) T)) w.heap.size n fun _ => z := by
 refine ⟨by simp, fun j hj => ⟨?_, ?_⟩⟩
 ·rw [cwn]
  have := congrArg (fun l => l[j]?) (toList_madeCells_one z n)
  simpa [hj] using this
 ·unfold World.frozen?
  rw [heap_alloc_new w _]
  simp
theorem Row.ints {w : World} {b n : Nat} {f : Nat → Int} (h : Row w b n fun j => I O (f j)) (hn : n ≤ maxLen) : Ints w (some ⟨b, 0, none⟩) ((List.range n).map f) := by
 refine Ints.of_cells (by simpa using hn) h.1 fun j hj => ?_
 rw [List.length_map, List.length_range] at hj; rw [getD_map_range f n j hj, Nat.zero_add]; exact (h.2 j hj).1
def IsRow (k : IntKind) (w : World) (a : Option Addr) (len cap : Nat) (zs : List Int) : Prop :=
 (a = none ∧ len = 0 ∧ cap = 0 ∧ zs = []) ∨
 ∃ x, a = some x ∧ len ≤ cap ∧ cap ≤ maxLen ∧ zs.length = cap ∧ (∀ i, i < zs.length → w.cell? (x.add i) = some (.int k (zs.getD i 0))) ∧ ∀ n ∈ zs, (Lit.int k n).wf = true
theorem IsRow.len {k : IntKind} {w : World} {a : Option Addr} {len cap : Nat} {zs : List Int} (h : IsRow k w a len cap zs) : len ≤ zs.length ∧ zs.length ≤ maxLen := by
 rcases h with ⟨_, rfl, _, rfl⟩ | ⟨x, _, h1, h2, h3, _, _⟩
 ·simp
 ·omega
theorem IsRow.wf {k : IntKind} {w : World} {a : Option Addr} {len cap : Nat} {zs : List Int} (h : IsRow k w a len cap zs) : ∀ n ∈ zs, (Lit.int k n).wf = true := by
 rcases h with ⟨_, _, _, rfl⟩ | ⟨x, _, _, _, _, _, h6⟩
 ·simp
 ·exact h6
theorem IsRow.get {k : IntKind} {w : World} {a : Option Addr} {len cap : Nat} {zs : List Int} (h : IsRow k w a len cap zs) {i : Nat} (hi : i < len) :
  ∃ b off x, a = some ⟨b, off, none⟩ ∧ b < w.heap.size ∧ w.cell? ⟨b, off + i, none⟩ = some (.int k x) ∧ Hid (zs.getD i 0 = x) := by
 have hl := h.len
 rcases h with ⟨_, rfl, _, _⟩ | ⟨x, rfl, h1, h2, h3, h4, _⟩
 ·omega
 ·have h0 := h4 0 (by omega)
  obtain ⟨b, off, spot⟩ := x; have hspot : spot = none := by simpa [Addr.add] using World.cell?_spot h0
  subst hspot; refine ⟨b, off, _, rfl, ?_, ?_, rfl⟩
  ·have := World.block_lt_of_cell? w _ h0
   simpa [Addr.add] using this
  ·rw [← Go.WideShapes.add_plain]
   exact h4 i (by omega)
theorem IsRow.ints {w : World} {a : Option Addr} {len cap : Nat} {zs : List Int} (h : IsRow .i64 w a len cap zs) : Ints w a (zs.take len) ∧ (zs.take len).length = len := by
 have hl := h.len; have he : (zs.take len).length = len := by rw [List.length_take]; omega
 refine ⟨⟨by omega, ?_⟩, he⟩
 by_cases h0 : len = 0
 ·subst h0; exact .inl rfl
 ·obtain ⟨b, off, x, rfl, hb, hc, _⟩ := h.get (i := 0) (by omega)
  refine .inr ⟨b, off, rfl, hb, fun j hj => ?_⟩
  obtain ⟨b', off', y, e, _, hc', hy⟩ := h.get (i := j) (by omega); simp only [Option.some.injEq, Addr.mk.injEq] at e; obtain ⟨rfl, rfl, _⟩ := e; rw [hc', ← hy.out]
  simp [List.getD_eq_getElem?_getD, he ▸ hj]
/-! ### a slice of ints that the call itself appends to_ -/
def Own (w : World) (T : TypeId) (B : Nat) (v : Value) (xs : List Int) : Prop := w.ownsRow B T 1 v xs.length (xs.map (Value.int .i64))
theorem Own.nil (w : World) (T : TypeId) (B : Nat) : Own w T B (.slice none 0 0) [] := World.ownsRow_nil w B T 1
theorem Own.ints {w : World} {T : TypeId} {B : Nat} {v : Value} {xs : List Int} (h : Own w T B v xs) : ∃ p cap, v = .slice p xs.length cap ∧ Ints w p xs := by
 rcases h.2 with ⟨hv, hn⟩ | ⟨g, cap, cur, hv, hB, hg, hle, hm, hs, ht⟩
 ·obtain rfl := List.length_eq_zero_iff.1 hn
  exact ⟨none, 0, hv, Ints.nil _ _⟩
 ·refine ⟨_, cap, hv, Ints.of_cells (by omega) (Array.getElem?_eq_some_iff.1 hg).1 fun j hj => ?_⟩
  have e : cur.toList[j]? = some (Value.int .i64 (xs.getD j 0)) := by
   have := congrArg (fun l => l[j]?) ht; simp only [Nat.mul_one, List.getElem?_take, if_pos hj] at this; rw [this]
   simp [List.getD_eq_getElem?_getD, hj]
  rw [Nat.zero_add]; simp only [World.cell?, hg]
  simpa using e
theorem Own.append {P : Program} {T TS : TypeId} {i0 : TypeInfo} (hi : P.info? T = some i0) (hz0 : i0.zero = some (I O 0)) (hz1 : i0.size = 1) (hz2 : i0.bytes = 8) (ht : P.underlying TS = some (.slice T)) {w : World} {ops : Array Oper} {rest : List Oper} {o : Oper} {a : Act} {Q : Exit → Act → World → Prop} (hgd : o.guard = none) (s x : Operand)
  (ho : o.op = .call { callee := .builtin .append, args := #[s, x], argTypes := #[TS, TS] }) (B : Nat) (v : Value) (xs : List Int) (y : Int) (hown : Own w T B v xs) (hs : a.eval s = v)
  (hx : a.eval x = .slice (some ⟨w.heap.size, 0, none⟩) 1 1) (hB : B ≤ w.heap.size) (hn : xs.length < 1099511627776)
  (h : ∀ v' w', Own w' T B v' (xs ++ [y]) → Below B w w' → wpList P ops Q rest (a.put o.dst v') w') : wpList P ops Q (o :: rest) a (w.alloc (.cells #[I O y] T)) := by
 refine wpList_append_own _ hgd s x TS ho B T i0 (I O 0) 1 8 ht hi hz0 hz1 hz2 rfl (by decide) v xs.length (xs.map (Value.int .i64)) hs (World.ownsRow.alloc hown _) ⟨w.heap.size, 0, none⟩ 1 1 [I O y] hx rfl (cell_one_new _ _ _) (by simp [Value.oneCell']) (by unfold maxLen; omega) (by omega) (by simp; omega) ?_
 intro v' w' h1 h2 _; refine h v' w' ?_ ?_
 ·unfold Own
  rw [lap, List.map_append]; exact h1
 ·refine (((brf B w).alloc hB _).grown h2 (by simp; omega) fun k hk => ?_)
  exact (World.ownsRow.lt hown k hk).1
end Go.Proofs.YtmlfcpglhipjgaaGreat
namespace Go.Proofs.YtmlfcpglhipjgaaGreat.Sh
/-! ### sums -/
theorem sum_perm {l m : List Int} (h : l.Perm m) : sum l = sum m := by
 induction h with
 | nil => rfl
 | cons x _ ih => simp only [sum, ih]
 | swap x y l => simp only [sum]; omega
 | trans _ _ ih1 ih2 => exact ih1.trans ih2
theorem sum_map_add {α : Type} (f g : α → Int) (l : List α) : sum (l.map fun x => f x + g x) = sum (l.map f) + sum (l.map g) := by
 induction l with
 | nil => simp [sum]
 | cons x l ih => simp only [List.map_cons, sum, ih]; omega
theorem sum_map_mul {α : Type} (c : Int) (f : α → Int) (l : List α) : sum (l.map fun x => c * f x) = c * sum (l.map f) := by
 induction l with
 | nil => simp [sum]
 | cons x l ih => simp only [List.map_cons, sum, ih, Int.mul_add]
theorem sum_map_const {α : Type} (c : Int) (l : List α) : sum (l.map fun _ => c) = c * l.length := by
 induction l with
 | nil => simp [sum]
 | cons x l ih => simp only [List.map_cons, sum, ih, List.length_cons]; rw [Int.natCast_add, Int.mul_add]; omega
theorem sum_map_le {α : Type} {f g : α → Int} {l : List α} (h : ∀ x ∈ l, f x ≤ g x) : sum (l.map f) ≤ sum (l.map g) := by
 induction l with
 | nil => simp [sum]
 | cons x l ih =>
   have := ih fun y hy => h y (List.mem_cons_of_mem _ hy)
   have := h x List.mem_cons_self; simp only [List.map_cons, sum]; omega
theorem sum_map_congr {α : Type} {f g : α → Int} {l : List α} (h : ∀ x ∈ l, f x = g x) : sum (l.map f) = sum (l.map g) := by
 rw [List.map_congr_left h]
theorem sum_nonneg {l : List Int} (h : ∀ x ∈ l, 0 ≤ x) : 0 ≤ sum l := by
 induction l with
 | nil => simp [sum]
 | cons x l ih =>
   have := ih fun y hy => h y (List.mem_cons_of_mem _ hy)
   have := h x List.mem_cons_self; simp only [sum]; omega
theorem le_sum {l : List Int} (h : ∀ x ∈ l, 0 ≤ x) {y : Int} (hy : y ∈ l) : y ≤ sum l := by
 induction l with
 | nil => cases hy
 | cons x l ih =>
   have h1 : ∀ z ∈ l, 0 ≤ z := fun z hz => h z (List.mem_cons_of_mem _ hz)
   have h2 := sum_nonneg h1; have h3 := h x List.mem_cons_self; simp only [sum]
   rcases List.mem_cons.1 hy with rfl | hy
   ·omega
   ·have := ih h1 hy; omega
theorem sum_le_len {l : List Int} {c : Int} (h : ∀ x ∈ l, x ≤ c) : sum l ≤ c * l.length := by
 have := sum_map_le (f := fun x => x) (g := fun _ => c) h; rw [sum_map_const] at this
 simpa using this
theorem sum_range (l : List Int) : sum ((List.range l.length).map fun i => l.getD i 0) = sum l := by
 congr 1
 apply List.ext_getElem
 ·simp
 ·intro i h1 h2
  simp at h1 h2 ⊢
  simp [h1]
/-! ### the order -/
def before (r : Nat → Int) (i j : Nat) : Bool := decide (r j < r i) || (decide (r i = r j) && decide (i < j))
theorem before_iff {r : Nat → Int} {i j : Nat} : before r i j = true ↔ r j < r i ∨ r i = r j ∧ i < j := by unfold before; simp
theorem before_not {r : Nat → Int} {i j : Nat} : before r i j = false ↔ ¬ (r j < r i ∨ r i = r j ∧ i < j) := by rw [← before_iff]; simp
def cf (n : Nat) (r : Nat → Int) (x y : Fin n) : Int := if r x.val < r y.val then 1 else if r y.val < r x.val then -1 else if x.val < y.val then -1 else if y.val < x.val then 1 else 0
theorem lt_cf (n : Nat) (r : Nat → Int) (x y : Fin n) : ltOf (cf n r) x y = before r x.val y.val := by
 rw [Bool.eq_iff_iff, before_iff]; unfold ltOf cf; rw [decide_eq_true_eq]
 split <;> (try split) <;> (try split) <;> (try split) <;> omega
theorem swo (n : Nat) (r : Nat → Int) : Go.Sort.SWO (ltOf (cf n r)) where
 irrefl x := by rw [lt_cf, before_not]; omega
 trans x y z h1 h2 := by rw [lt_cf, before_iff] at *; omega
 ntrans x y z h1 h2 := by rw [lt_cf, before_not] at *; omega
theorem tot (n : Nat) (r : Nat → Int) (x y : Fin n) (h1 : ltOf (cf n r) x y = false) (h2 : ltOf (cf n r) y x = false) : x = y := by
 rw [lt_cf, before_not] at *
 apply Fin.ext
 omega
def order (n : Nat) (r : Nat → Int) : List Nat := ((List.finRange n).mergeSort fun x y => !(ltOf (cf n r) y x)).map Fin.val
theorem order_perm (n : Nat) (r : Nat → Int) : (order n r).Perm (List.range n) := by
 unfold order; refine ((List.mergeSort_perm _ _).map _).trans ?_; rw [show (List.finRange n).map Fin.val = List.range n from by apply List.ext_getElem <;> simp]
theorem order_nodup (n : Nat) (r : Nat → Int) : (order n r).Nodup := (order_perm n r).nodup_iff.2 List.nodup_range
theorem order_len (n : Nat) (r : Nat → Int) : (order n r).length = n := by rw [(order_perm n r).length_eq, List.length_range]
theorem order_mem (n : Nat) (r : Nat → Int) (i : Nat) : i ∈ order n r ↔ i < n := by rw [(order_perm n r).mem_iff, List.mem_range]
theorem order_sorted (n : Nat) (r : Nat → Int) : (order n r).Pairwise fun i j => before r j i = false := by
 unfold order; rw [List.pairwise_map]; refine (List.pairwise_mergeSort (le := fun x y => !(ltOf (cf n r) y x)) ?_ ?_ (List.finRange n)).imp ?_
 ·intro a b c h1 h2
  simp only [Bool.not_eq_true', lt_cf, before_not] at *; omega
 ·intro a b
  simp only [Bool.or_eq_true, Bool.not_eq_true', lt_cf, before_not]; omega
 ·intro a b h
  simpa only [Bool.not_eq_true', lt_cf] using h
theorem nodup_inj {l : List Nat} (h : l.Nodup) {a b : Nat} (ha : a < l.length) (hb : b < l.length) (e : l[a] = l[b]) : a = b := by
 have p := List.pairwise_iff_getElem.1 h
 rcases Nat.lt_trichotomy a b with hl | hl | hl
 ·exact absurd e (p a b ha hb hl)
 ·exact hl
 ·exact absurd e.symm (p b a hb ha hl)
theorem order_lt {n : Nat} {r : Nat → Int} {a b : Nat} (hab : a < b) (hb : b < (order n r).length) : before r ((order n r)[a]'(by omega)) ((order n r)[b]) = true := by
 have h := List.pairwise_iff_getElem.1 (order_sorted n r) a b (by omega) hb hab; have hne : (order n r)[a]'(by omega) ≠ (order n r)[b] := fun e => by
  have := nodup_inj (order_nodup n r) _ _ e; omega
 rw [before_not] at h; rw [before_iff]; omega
def top (n : Nat) (r : Nat → Int) (k i : Nat) : Bool := decide (i ∈ (order n r).take k)
theorem top_zero (n : Nat) (r : Nat → Int) (i : Nat) : top n r 0 i = false := by simp [top]
theorem top_succ {n : Nat} {r : Nat → Int} {k i : Nat} (hk : k < (order n r).length) : top n r (k + 1) i = (top n r k i || decide (i = (order n r)[k])) := by
 unfold top; rw [Bool.eq_iff_iff]; simp only [Bool.or_eq_true, decide_eq_true_eq]; rw [tsg hk, List.mem_append, List.mem_singleton]
theorem top_at {n : Nat} {r : Nat → Int} {k : Nat} (hk : k < (order n r).length) : top n r k (order n r)[k] = false := by
 unfold top; rw [decide_eq_false_iff_not, List.mem_take_iff_getElem]; rintro ⟨j, hj, e⟩; have := nodup_inj (order_nodup n r) _ _ e; omega
theorem top_sum {n : Nat} {r : Nat → Int} {k : Nat} (hk : k ≤ n) : sum ((List.range n).map fun i => if top n r k i = true then 1 else 0) = k := by
 rw [← sum_perm ((order_perm n r).map _)]; have hn := order_nodup n r; have e : order n r = (order n r).take k ++ (order n r).drop k := (List.take_append_drop k _).symm; have d := List.nodup_append.1 (e ▸ hn); rw [show (order n r).map (fun i => if top n r k i = true then (1 : Int) else 0) = ((order n r).take k ++ (order n r).drop k).map (fun i => if top n r k i = true then (1 : Int) else 0) from by rw [← e], List.map_append, sum_append]; rw [sum_map_congr (g := fun _ => 1) (l := (order n r).take k), sum_map_congr (g := fun _ => 0) (l := (order n r).drop k), sum_map_const, sum_map_const]
 ·rw [List.length_take, order_len]; omega
 ·intro x hx
  rw [if_neg]; unfold top; rw [decide_eq_true_eq]; exact fun h => d.2.2 x h x hx rfl
 ·intro x hx
  rw [if_pos]; unfold top; exact dqt hx
theorem top_none {n : Nat} {r : Nat → Int} {k : Nat} {s : Int} (_hk : k ≤ n) (h0 : ∀ i, i < n → 0 ≤ r i) (h1 : ∀ i, i < n → r i < s) (hs : sum ((List.range n).map r) = s * k) (hpos : 0 < s) {i : Nat} (hi : i < n) (hr : r i = 0) : top n r k i = false := by
 apply Bool.eq_false_iff.2
 intro ht; unfold top at ht; rw [decide_eq_true_eq, List.mem_take_iff_getElem] at ht; obtain ⟨p, hp, rfl⟩ := ht; have hpk : p < k := by omega
 have hpl : p < (order n r).length := by omega
 have e : order n r = (order n r).take (p) ++ (order n r).drop p := (List.take_append_drop p _).symm; rw [← sum_perm ((order_perm n r).map r), e, List.map_append, sum_append] at hs; have a1 : sum (((order n r).take p).map r) ≤ s * p := by
  have := sum_map_le (f := r) (g := fun _ => s) (l := (order n r).take p) (fun x hx => Int.le_of_lt (h1 x ((order_mem n r x).1 (List.mem_of_mem_take hx)))); rw [sum_map_const, List.length_take, Nat.min_eq_left (by omega)] at this; exact this
 have a2 : sum (((order n r).drop p).map r) ≤ 0 * ((order n r).drop p).length := by
  rw [← sum_map_const]; refine sum_map_le fun x hx => ?_
  obtain ⟨j, hj, rfl⟩ := List.getElem_of_mem hx; rw [List.getElem_drop]; rw [List.length_drop] at hj
  by_cases hz : j = 0
  ·subst hz; simp only [Nat.add_zero]; omega
  ·have hb := order_lt (n := n) (r := r) (a := p) (b := p + j) (by omega) (by omega)
   rw [before_iff, hr] at hb; have := h0 _ ((order_mem n r _).1 (List.getElem_mem (show p + j < (order n r).length by omega))); omega
 have a3 : s * (p : Int) + s ≤ s * (k : Int) := by
  have : s * ((p : Int) + 1) ≤ s * (k : Int) := Int.mul_le_mul_of_nonneg_left (by omega) (by omega); rw [Int.mul_add, Int.mul_one] at this; exact this
 omega
/-! ### shares -/
def limited (n : Int) : Bool := decide (0 ≤ n) && decide (n ≤ 1099511627776)
theorem limited_iff {n : Int} : limited n = true ↔ 0 ≤ n ∧ n ≤ 1099511627776 := by unfold limited; simp
def quo (t : Int) (ws : List Int) (i : Nat) : Int := t * ws.getD i 0 / sum ws
def rest (t : Int) (ws : List Int) (i : Nat) : Int := t * ws.getD i 0 % sum ws
def left (t : Int) (ws : List Int) : Nat := (t - sum ((List.range ws.length).map (quo t ws))).toNat
def share (t : Int) (ws : List Int) (i : Nat) : Int := quo t ws i + if top ws.length (rest t ws) (left t ws) i = true then 1 else 0
def shares (t : Int) (ws : List Int) : List Int := (List.range ws.length).map (share t ws)
structure Right (t : Int) (ws : List Int) : Prop where
 ht : 0 ≤ t
 ht' : t ≤ 1099511627776
 hw : ∀ x ∈ ws, 0 ≤ x ∧ x ≤ 1099511627776
 hs : sum ws ≠ 0
variable {t : Int} {ws : List Int}
theorem Right.pos (h : Right t ws) : 0 < sum ws := by
 have := sum_nonneg fun x hx => (h.hw x hx).1
 have := h.hs; omega
theorem Right.w0 (h : Right t ws) (i : Nat) : 0 ≤ ws.getD i 0 := by
 rw [List.getD_eq_getElem?_getD]
 rcases Nat.lt_or_ge i ws.length with hi | hi
 ·rw [List.getElem?_eq_getElem hi]; exact (h.hw _ (List.getElem_mem hi)).1
 ·rw [List.getElem?_eq_none hi]; exact Int.le_refl _
theorem Right.w1 (h : Right t ws) (i : Nat) : ws.getD i 0 ≤ sum ws := by
 rw [List.getD_eq_getElem?_getD]
 rcases Nat.lt_or_ge i ws.length with hi | hi
 ·rw [List.getElem?_eq_getElem hi]; exact le_sum (fun x hx => (h.hw x hx).1) (List.getElem_mem hi)
 ·rw [List.getElem?_eq_none hi]; exact sum_nonneg fun x hx => (h.hw x hx).1
theorem Right.rest0 (h : Right t ws) (i : Nat) : 0 ≤ rest t ws i := Int.emod_nonneg _ h.hs
theorem Right.rest1 (h : Right t ws) (i : Nat) : rest t ws i < sum ws := Int.emod_lt_of_pos _ h.pos
theorem Right.quo0 (h : Right t ws) (i : Nat) : 0 ≤ quo t ws i := Int.ediv_nonneg (Int.mul_nonneg h.ht (h.w0 i)) (Int.le_of_lt h.pos)
theorem Right.quo1 (h : Right t ws) (i : Nat) : quo t ws i ≤ t := by
 have : quo t ws i < t + 1 := by
  unfold quo; rw [Int.ediv_lt_iff_lt_mul h.pos]; have h1 : t * ws.getD i 0 ≤ t * sum ws := Int.mul_le_mul_of_nonneg_left (h.w1 i) h.ht; have := h.pos; rw [Int.add_mul]; omega
 omega
theorem Right.rests (_h : Right t ws) : sum ws * sum ((List.range ws.length).map (quo t ws)) + sum ((List.range ws.length).map (rest t ws)) = sum ws * t := by
 rw [← sum_map_mul, ← sum_map_add, sum_map_congr (g := fun i => t * ws.getD i 0), sum_map_mul, sum_range, Int.mul_comm]; intro i _; unfold quo rest; rw [Int.mul_comm (sum ws)]; have := Int.emod_add_ediv_mul (t * ws.getD i 0) (sum ws); omega
theorem Right.left_eq (h : Right t ws) : (left t ws : Int) = t - sum ((List.range ws.length).map (quo t ws)) ∧ sum ((List.range ws.length).map (rest t ws)) = sum ws * (left t ws : Int) := by
 have hr := h.rests; have hp := h.pos; have h0 : 0 ≤ sum ((List.range ws.length).map (rest t ws)) := sum_nonneg fun x hx => by
  obtain ⟨i, _, rfl⟩ := List.mem_map.1 hx; exact h.rest0 i
 unfold left; generalize sum ((List.range ws.length).map (quo t ws)) = q at *; generalize sum ((List.range ws.length).map (rest t ws)) = m at *; have h1 : m = sum ws * (t - q) := by rw [Int.mul_sub]; omega
 have h2 : 0 ≤ t - q := by
  apply Int.not_lt.1
  intro hn; have := Int.mul_neg_of_pos_of_neg hp hn; omega
 rw [Int.toNat_of_nonneg h2]; exact ⟨rfl, h1⟩
theorem quo_succ (t : Int) (ws : List Int) (k : Nat) : sum ((List.range (k + 1)).map (quo t ws)) = sum ((List.range k).map (quo t ws)) + quo t ws k := by
 rw [List.range_succ, List.map_append, sum_append]; simp [sum]
theorem Right.quo_sum (h : Right t ws) (k : Nat) : 0 ≤ sum ((List.range k).map (quo t ws)) ∧ sum ((List.range k).map (quo t ws)) ≤ 1099511627776 * k := by
 refine ⟨sum_nonneg fun x hx => ?_, ?_⟩
 ·obtain ⟨i, _, rfl⟩ := List.mem_map.1 hx
  exact h.quo0 i
 ·have := sum_le_len (l := (List.range k).map (quo t ws)) (c := 1099511627776) fun x hx => by
   obtain ⟨i, _, rfl⟩ := List.mem_map.1 hx; exact Int.le_trans (h.quo1 i) h.ht'
  simpa using this
theorem Right.quo_bd (h : Right t ws) (k : Nat) : 0 ≤ quo t ws k ∧ quo t ws k ≤ 1099511627776 := ⟨h.quo0 k, Int.le_trans (h.quo1 k) h.ht'⟩
theorem Right.len (h : Right t ws) : 0 < ws.length := by
 apply Nat.pos_of_ne_zero
 intro e; exact h.hs (by rw [List.length_eq_zero_iff.1 e]; rfl)
theorem Right.left_lt (h : Right t ws) : left t ws < ws.length := by
 have hl := h.left_eq.2; have hp := h.pos; have h1 : sum ((List.range ws.length).map (rest t ws)) ≤ (sum ws - 1) * ((List.range ws.length).map (rest t ws)).length := sum_le_len fun x hx => by
  obtain ⟨i, _, rfl⟩ := List.mem_map.1 hx; have := h.rest1 i; omega
 rw [List.length_map, List.length_range] at h1; have hn := h.len
 apply Nat.lt_of_not_le
 intro hle; have h2 : sum ws * (ws.length : Int) ≤ sum ws * (left t ws : Int) := Int.mul_le_mul_of_nonneg_left (by omega) (by omega); rw [Int.sub_mul, Int.one_mul] at h1; omega
theorem Right.total (h : Right t ws) : sum (shares t ws) = t := by
 unfold shares share; rw [sum_map_add, top_sum (Nat.le_of_lt h.left_lt)]; have := h.left_eq.1; omega
theorem Right.share_bd (h : Right t ws) (i : Nat) : 0 ≤ share t ws i ∧ share t ws i ≤ t + 1 := by
 have := h.quo0 i; have := h.quo1 i; unfold share
 split <;> omega
theorem Right.share_zero (h : Right t ws) {i : Nat} (hi : i < ws.length) (hz : ws.getD i 0 = 0) : share t ws i = 0 := by
 have hr : rest t ws i = 0 := by unfold rest; rw [hz]; simp
 have hq : quo t ws i = 0 := by unfold quo; rw [hz]; simp
 unfold share; rw [top_none (s := sum ws) (Nat.le_of_lt h.left_lt) (fun i _ => h.rest0 i) (fun i _ => h.rest1 i) h.left_eq.2 h.pos hi hr, hq]
 rfl
theorem Right.share_mono (h : Right t ws) {i j : Nat} (_hi : i < ws.length) (hj : j < ws.length) (hlt : ws.getD i 0 < ws.getD j 0) : share t ws i ≤ share t ws j := by
 have hp := h.pos; have hm : t * ws.getD i 0 ≤ t * ws.getD j 0 := Int.mul_le_mul_of_nonneg_left (by omega) h.ht; have hq : quo t ws i ≤ quo t ws j := Int.ediv_le_ediv hp hm; unfold share
 rcases Int.lt_or_eq_of_le hq with hq | hq
 ·split <;> split <;> omega
 ·rw [hq]
  by_cases ht : top ws.length (rest t ws) (left t ws) i = true
  ·rw [if_pos ht]
   by_cases htj : top ws.length (rest t ws) (left t ws) j = true
   ·rw [if_pos htj]; omega
   ·exfalso
    replace htj : top ws.length (rest t ws) (left t ws) j = false := by simpa using htj
    unfold top at ht htj; rw [decide_eq_true_eq, List.mem_take_iff_getElem] at ht; obtain ⟨a, ha, ea⟩ := ht; obtain ⟨b, hb, eb⟩ := List.getElem_of_mem ((order_mem ws.length (rest t ws) j).2 hj); rw [decide_eq_false_iff_not, List.mem_take_iff_getElem] at htj; have hb2 : ¬ b < left t ws := fun hlt => htj ⟨b, by omega, eb⟩
    have hbf := order_lt (n := ws.length) (r := rest t ws) (a := a) (b := b) (by omega) hb; rw [ea, eb, before_iff] at hbf; have e1 := Int.emod_add_ediv_mul (t * ws.getD i 0) (sum ws); have e2 := Int.emod_add_ediv_mul (t * ws.getD j 0) (sum ws); unfold quo at hq; rw [hq] at e1; unfold rest at hbf
    by_cases ht0 : t = 0
    ·subst ht0
     have hz : sum ((List.range ws.length).map (quo 0 ws)) = 0 := by
      rw [sum_map_congr (g := fun _ => 0), sum_map_const]
      ·simp
      ·intro i _; unfold quo; simp
     have hl := h.left_eq.1; rw [hz] at hl; omega
    ·have hm2 : t * ws.getD i 0 < t * ws.getD j 0 := Int.mul_lt_mul_of_pos_left hlt (by have := h.ht; omega)
     omega
  ·rw [if_neg ht]; split <;> omega
end Go.Proofs.YtmlfcpglhipjgaaGreat.Sh
namespace Go.Proofs.YtmlfcpglhipjgaaGreat.Sh
variable {t : Int} {ws : List Int}
theorem Right.share_le (h : Right t ws) (hlt : t < sum ws) {i : Nat} (hi : i < ws.length) : share t ws i ≤ ws.getD i 0 := by
 by_cases hz : ws.getD i 0 = 0
 ·rw [h.share_zero hi hz, hz]; exact Int.le_refl _
 ·have w0 := h.w0 i
  have hq : quo t ws i < ws.getD i 0 := by
   unfold quo; rw [Int.ediv_lt_iff_lt_mul h.pos, Int.mul_comm]; exact Int.mul_lt_mul_of_pos_left hlt (by omega)
  unfold share
  split <;> omega
theorem shares_getD (t : Int) (ws : List Int) (i : Nat) (hi : i < ws.length) : (shares t ws).getD i 0 = share t ws i := by
 unfold shares; exact getD_map_range _ _ _ hi
end Go.Proofs.YtmlfcpglhipjgaaGreat.Sh
namespace Go.Proofs.YtmlfcpglhipjgaaGreat.Re
def ab (l : List (Int × Int)) (i : Nat) : Int := (l.getD i (0, 0)).1
def ti (l : List (Int × Int)) (i : Nat) : Int := (l.getD i (0, 0)).2
def okAt (l : List (Int × Int)) (i : Nat) : Bool :=
 decide (0 ≤ ab l i) && decide (ab l i ≤ 100000) && (decide (i = 0) || decide (ab l (i - 1) < ab l i)) &&
 ((decide (ti l i = -1) && decide (i + 1 = l.length)) || (decide (0 ≤ ti l i) && decide (ti l i ≤ 10) && (decide (i = 0) || decide (ti l (i - 1) ≤ ti l i))))
structure Right (l : List (Int × Int)) : Prop where
 len1 : 1 ≤ l.length
 len : l.length ≤ 6
 ok : ∀ i, i < l.length → okAt l i = true
def chk (l : List (Int × Int)) : Int := if 1 ≤ l.length ∧ l.length ≤ 6 ∧ ((List.range l.length).all (okAt l)) = true then 0 else 66
variable {l : List (Int × Int)}
theorem chk_zero : chk l = 0 ↔ Right l := by
 unfold chk
 constructor
 ·intro h
  split at h
  ·rename_i hc
   exact ⟨hc.1, hc.2.1, fun i hi => List.all_eq_true.1 hc.2.2 i (List.mem_range.2 hi)⟩
  ·omega
 ·intro h
  rw [if_pos ⟨h.len1, h.len, List.all_eq_true.2 fun i hi => h.ok i (List.mem_range.1 hi)⟩]
theorem chk_not (h : ¬ Right l) : chk l = 66 := by
 unfold chk; rw [if_neg]; exact fun hc => h ⟨hc.1, hc.2.1, fun i hi => List.all_eq_true.1 hc.2.2 i (List.mem_range.2 hi)⟩
theorem okAt_iff {i : Nat} : okAt l i = true ↔ (0 ≤ ab l i ∧ ab l i ≤ 100000) ∧ (i = 0 ∨ ab l (i - 1) < ab l i) ∧ ((ti l i = -1 ∧ i + 1 = l.length) ∨ ((0 ≤ ti l i ∧ ti l i ≤ 10) ∧ (i = 0 ∨ ti l (i - 1) ≤ ti l i))) := by
 unfold okAt; simp only [Bool.and_eq_true, Bool.or_eq_true, decide_eq_true_eq, and_assoc]
theorem Right.ab0 (h : Right l) {i : Nat} (hi : i < l.length) : 0 ≤ ab l i ∧ ab l i ≤ 100000 := (okAt_iff.1 (h.ok i hi)).1
theorem Right.ti0 (h : Right l) {i : Nat} (hi : i < l.length) : (ti l i = -1 ∧ i + 1 = l.length) ∨ 0 ≤ ti l i ∧ ti l i ≤ 10 := by
 rcases (okAt_iff.1 (h.ok i hi)).2.2 with h | h
 ·exact .inl h
 ·exact .inr h.1
def area (n : Int) : Bool := decide (0 ≤ n) && decide (n ≤ 268435456)
theorem area_iff {n : Int} : area n = true ↔ 0 ≤ n ∧ n ≤ 268435456 := by unfold area; simp
theorem area_not {n : Int} : area n = false ↔ n < 0 ∨ 268435456 < n := by rw [← Bool.not_eq_true, area_iff]; omega
def holds (l : List (Int × Int)) (d f : Int) (i : Nat) : Bool := decide (ab l i * f < 1000 * max 0 (d - f))
def stepTo (l : List (Int × Int)) (d f : Int) : Nat → Int
 | 0 => -1
 | k + 1 => if holds l d f k = true then k else stepTo l d f k
def step (l : List (Int × Int)) (d f : Int) : Int := stepTo l d f l.length
def stepV (l : List (Int × Int)) (d f : Int) : Int := if chk l ≠ 0 ∨ area d = false ∨ area f = false then -1 else step l d f
def paid (l : List (Int × Int)) (d f : Int) : Int :=
 if d ≤ f then d else if step l d f < 0 then f else if ti l (step l d f).toNat = -1 then 0 else max 0 (f - ti l (step l d f).toNat * (d - f))
def paidErr (l : List (Int × Int)) (d f : Int) : Int := if chk l ≠ 0 then 66 else if area d = false ∨ area f = false then 2 else 0
def paidVal (l : List (Int × Int)) (d f : Int) : Int := if paidErr l d f ≠ 0 then 0 else paid l d f
variable {d f : Int}
theorem stepTo_spec (k : Nat) : (stepTo l d f k = -1 ∧ ∀ j, j < k → holds l d f j = false) ∨ ∃ n : Nat, stepTo l d f k = n ∧ n < k ∧ holds l d f n = true ∧ ∀ j, n < j → j < k → holds l d f j = false := by
 induction k with
 | zero => exact .inl ⟨rfl, fun j hj => absurd hj (Nat.not_lt_zero j)⟩
 | succ k ih =>
   unfold stepTo
   by_cases hk : holds l d f k = true
   ·rw [if_pos hk]
    exact .inr ⟨k, rfl, by omega, hk, fun j h1 h2 => absurd h2 (by omega)⟩
   ·rw [if_neg hk]
    have hk' : holds l d f k = false := by simpa using hk
    rcases ih with ⟨e, h⟩ | ⟨n, e, h1, h2, h3⟩
    ·exact .inl ⟨e, fun j hj => by
      by_cases ej : j = k
      ·rw [ej]; exact hk'
      ·exact h j (by omega)⟩
    ·exact .inr ⟨n, e, by omega, h2, fun j g1 g2 => by
      by_cases ej : j = k
      ·rw [ej]; exact hk'
      ·exact h3 j g1 (by omega)⟩
theorem step_spec : (step l d f = -1 ∧ ∀ j, j < l.length → holds l d f j = false) ∨ ∃ n : Nat, step l d f = n ∧ n < l.length ∧ holds l d f n = true ∧ ∀ j, n < j → j < l.length → holds l d f j = false := stepTo_spec l.length
theorem Right.paid_bd (h : Right l) (d0 : 0 ≤ d) (f0 : 0 ≤ f) : 0 ≤ paid l d f ∧ paid l d f ≤ d ∧ paid l d f ≤ f := by
 unfold paid
 by_cases h1 : d ≤ f
 ·rw [if_pos h1]; omega
 ·rw [if_neg h1]
  by_cases h2 : step l d f < 0
  ·rw [if_pos h2]; omega
  ·rw [if_neg h2]
   by_cases h3 : ti l (step l d f).toNat = -1
   ·rw [if_pos h3]; omega
   ·rw [if_neg h3]
    rcases step_spec (l := l) (d := d) (f := f) with ⟨e, _⟩ | ⟨n, e, hn, _⟩
    ·omega
    ·rw [e, Int.toNat_natCast] at h3 ⊢
     have ht : 0 ≤ ti l n := by rcases h.ti0 hn with h | h <;> omega
     have := Int.mul_nonneg ht (show 0 ≤ d - f by omega); omega
end Go.Proofs.YtmlfcpglhipjgaaGreat.Re
namespace Go.Proofs.YtmlfcpglhipjgaaGreat.Kn
structure Digit (Y y1 y0 u c : Int) : Prop where
 hY : Y = y1 * 4294967296 + y0
 h0 : 0 ≤ y0
 h0' : y0 < 4294967296
 h1 : 2147483648 ≤ y1
 h1' : y1 < 4294967296
 hu : 0 ≤ u
 hu' : u < Y
 hc : 0 ≤ c
 hc' : c < 4294967296
structure Inv (Y y1 y0 u c q r : Int) : Prop where
 he : u = q * y1 + r
 hr : 0 ≤ r
 hr' : r < 4294967296
 hq : (u * 4294967296 + c) / Y ≤ q
 hq' : q ≤ 4294967297
variable {Y y1 y0 u c q r : Int}
theorem Digit.pos (h : Digit Y y1 y0 u c) : 0 < Y := by have := h.hY; have := h.h1; have := h.h0; omega
theorem Digit.q_nonneg (h : Digit Y y1 y0 u c) : 0 ≤ (u * 4294967296 + c) / Y := Int.ediv_nonneg (by have := h.hu; have := h.hc; omega) (Int.le_of_lt h.pos)
theorem Digit.q_lt (h : Digit Y y1 y0 u c) : (u * 4294967296 + c) / Y < 4294967296 := by
 rw [Int.ediv_lt_iff_lt_mul h.pos]; have := h.hu'; have := h.hc'; omega
theorem Digit.is (h : Digit Y y1 y0 u c) (hq : (u * 4294967296 + c) / Y ≤ q) (hm : q * Y ≤ u * 4294967296 + c) : (u * 4294967296 + c) / Y = q :=
 Int.le_antisymm hq ((Int.le_ediv_iff_mul_le h.pos).2 hm)
theorem Digit.less (h : Digit Y y1 y0 u c) (hm : u * 4294967296 + c < q * Y) : (u * 4294967296 + c) / Y ≤ q - 1 := by
 have := (Int.ediv_lt_iff_lt_mul h.pos).2 hm; omega
theorem Digit.start (h : Digit Y y1 y0 u c) : Inv Y y1 y0 u c (u / y1) (u - u / y1 * y1) := by
 have hp : 0 < y1 := by have := h.h1; omega
 have e1 : u / y1 * y1 ≤ u := Int.ediv_mul_le u (by omega); have e2 : u < u / y1 * y1 + y1 := by have := Int.lt_ediv_add_one_mul_self u hp; rw [Int.add_mul] at this; omega
 have hq0 : 0 ≤ u / y1 := Int.ediv_nonneg h.hu (by omega); refine ⟨by omega, by omega, by have := h.h1'; omega, ?_, ?_⟩
 ·rw [Int.le_ediv_iff_mul_le hp]
  have hQ := Int.ediv_mul_le (u * 4294967296 + c) (b := Y) (by have := h.pos; omega); have hn := h.q_nonneg; generalize (u * 4294967296 + c) / Y = Q at *; rw [h.hY, Int.mul_add] at hQ; have h3 : 0 ≤ Q * y0 := Int.mul_nonneg hn h.h0; have h4 : Q * (y1 * 4294967296) = Q * y1 * 4294967296 := by rw [Int.mul_assoc]
  have := h.hc'; omega
 ·have hu' := h.hu'
  rw [h.hY] at hu'; have := h.h0'
  apply Int.not_lt.1
  intro hlt; have h5 : 4294967298 * y1 ≤ u / y1 * y1 := Int.mul_le_mul_of_nonneg_right (by omega) (by omega); have := h.h1; omega
theorem Inv.num (h : Digit Y y1 y0 u c) (k : Inv Y y1 y0 u c q r) : q * Y = u * 4294967296 - r * 4294967296 + q * y0 := by
 have := k.he; have := h.hY
 grind
theorem Inv.step (h : Digit Y y1 y0 u c) (k : Inv Y y1 y0 u c q r) (ht : 4294967296 ≤ q ∨ 4294967296 * r + c < q * y0) : (u * 4294967296 + c) / Y ≤ q - 1 := by
 rcases ht with ht | ht
 ·have := h.q_lt; omega
 ·apply h.less
  rw [k.num h]; omega
theorem Inv.next (h : Digit Y y1 y0 u c) (k : Inv Y y1 y0 u c q r) (ht : 4294967296 ≤ q ∨ 4294967296 * r + c < q * y0) (hr : r + y1 < 4294967296) : Inv Y y1 y0 u c (q - 1) (r + y1) :=
 ⟨by have := k.he; grind, by have := k.hr; have := h.h1; omega, hr, k.step h ht, by have := k.hq'; omega⟩
theorem Inv.out (h : Digit Y y1 y0 u c) (k : Inv Y y1 y0 u c q r) (ht : 4294967296 ≤ q ∨ 4294967296 * r + c < q * y0) (hr : 4294967296 ≤ r + y1) : (u * 4294967296 + c) / Y = q - 1 := by
 have hs := k.step h ht
 apply h.is hs
 have hn := h.q_nonneg; have e : (q - 1) * Y = u * 4294967296 - (r + y1) * 4294967296 + (q - 1) * y0 := by have := k.num h; have := h.hY; grind
 have e2 : (q - 1) * y0 ≤ 4294967296 * y0 := Int.mul_le_mul_of_nonneg_right (by have := k.hq'; omega) h.h0; have := h.h0'; have := h.hc; omega
theorem Inv.done (h : Digit Y y1 y0 u c) (k : Inv Y y1 y0 u c q r) (_h1 : q < 4294967296) (h2 : q * y0 ≤ 4294967296 * r + c) : (u * 4294967296 + c) / Y = q := by
 apply h.is k.hq
 rw [k.num h]; omega
theorem Digit.rest (h : Digit Y y1 y0 u c) : IntKind.u64.wrap (IntKind.u64.wrap (IntKind.u64.wrap (u * 4294967296) + c) - IntKind.u64.wrap ((u * 4294967296 + c) / Y * Y)) = (u * 4294967296 + c) % Y := by
 have e := Int.emod_add_ediv_mul (u * 4294967296 + c) Y; have l := Int.emod_lt_of_pos (u * 4294967296 + c) h.pos; have n := Int.emod_nonneg (u * 4294967296 + c) (b := Y) (by have := h.pos; omega); have hb : Y < 18446744073709551616 := by have := h.hY; have := h.h1'; have := h.h0'; omega
 generalize (u * 4294967296 + c) / Y * Y = p at *; generalize (u * 4294967296 + c) % Y = m at *; simp only [IntKind.wrap_u64]; omega
theorem Inv.ways (h : Digit Y y1 y0 u c) (k : Inv Y y1 y0 u c q r) :
  (4294967296 ≤ q ∧ r + y1 < 4294967296 ∧ Inv Y y1 y0 u c (q - 1) (r + y1)) ∨
  (q < 4294967296 ∧ 4294967296 * r + c < q * y0 ∧ r + y1 < 4294967296 ∧ Inv Y y1 y0 u c (q - 1) (r + y1)) ∨
  (4294967296 ≤ q ∧ 4294967296 ≤ r + y1 ∧ q - 1 = (u * 4294967296 + c) / Y) ∨
  (q < 4294967296 ∧ 4294967296 * r + c < q * y0 ∧ 4294967296 ≤ r + y1 ∧ q - 1 = (u * 4294967296 + c) / Y) ∨
  (q < 4294967296 ∧ q * y0 ≤ 4294967296 * r + c ∧ q = (u * 4294967296 + c) / Y) := by
 by_cases h1 : 4294967296 ≤ q
 ·by_cases h2 : r + y1 < 4294967296
  ·exact .inl ⟨h1, h2, k.next h (.inl h1) h2⟩
  ·exact .inr (.inr (.inl ⟨h1, by omega, (k.out h (.inl h1) (by omega)).symm⟩))
 ·by_cases h3 : 4294967296 * r + c < q * y0
  ·by_cases h2 : r + y1 < 4294967296
   ·exact .inr (.inl ⟨by omega, h3, h2, k.next h (.inr h3) h2⟩)
   ·exact .inr (.inr (.inr (.inl ⟨by omega, h3, by omega, (k.out h (.inr h3) (by omega)).symm⟩)))
  ·exact .inr (.inr (.inr (.inr ⟨by omega, by omega, (k.done h (by omega) (by omega)).symm⟩)))
theorem Inv.mul (h : Digit Y y1 y0 u c) (_k : Inv Y y1 y0 u c q r) (hq0 : 0 ≤ q) (hq : q < 4294967296) : IntKind.u64.wrap (q * y0) = q * y0 := by
 have h1 : 0 ≤ q * y0 := Int.mul_nonneg hq0 h.h0; have h2 : q * y0 ≤ 4294967296 * y0 := Int.mul_le_mul_of_nonneg_right (by omega) h.h0; have := h.h0'; exact IntWalk.u64_in _ ⟨by omega, by omega⟩
theorem Digit.first (h : Digit Y y1 y0 u c) : IntKind.u64.wrap (u - IntKind.u64.wrap (u / y1 * y1)) = u - u / y1 * y1 := by
 have hp : 0 < y1 := by have := h.h1; omega
 have e1 : u / y1 * y1 ≤ u := Int.ediv_mul_le u (by omega); have hq0 : 0 ≤ u / y1 * y1 := Int.mul_nonneg (Int.ediv_nonneg h.hu (by omega)) (by omega); have hb : Y < 18446744073709551616 := by have := h.hY; have := h.h1'; have := h.h0'; omega
 have := h.hu'; rw [IntWalk.u64_in _ ⟨hq0, by omega⟩, IntWalk.u64_in _ ⟨by omega, by omega⟩]
theorem whole {Y u a b : Int} (hY : 0 < Y) : (u * 18446744073709551616 + (a * 4294967296 + b)) / Y = (u * 4294967296 + a) / Y * 4294967296 + ((u * 4294967296 + a) % Y * 4294967296 + b) / Y ∧ (u * 18446744073709551616 + (a * 4294967296 + b)) % Y = ((u * 4294967296 + a) % Y * 4294967296 + b) % Y := by
 have e := Int.emod_add_ediv_mul (u * 4294967296 + a) Y; generalize (u * 4294967296 + a) / Y = p at *; generalize (u * 4294967296 + a) % Y = m at *; have e2 : u * 18446744073709551616 + (a * 4294967296 + b) = (m * 4294967296 + b) + (p * 4294967296) * Y := by grind
 rw [e2, Int.add_mul_ediv_right _ _ (by omega), Int.add_mul_emod_self_right]; exact ⟨by omega, rfl⟩
theorem shifted {n y k : Int} (hk : 0 < k) : n * k / (y * k) = n / y ∧ n * k % (y * k) / k = n % y := by
 refine ⟨Int.mul_ediv_mul_of_pos_left _ _ hk, ?_⟩
 rw [Int.mul_comm n k, Int.mul_comm y k, Int.mul_emod_mul_of_pos _ _ hk]; exact Int.mul_ediv_cancel_left _ (by omega)
def lz (y : Int) : Nat := 64 - Lib.bitLen y.toNat
theorem lz_spec {y : Int} (h1 : 1 ≤ y) (h2 : y < 18446744073709551616) : lz y < 64 ∧ (64 - (Lib.bitLen y.toNat : Int)) = (lz y : Int) ∧ 9223372036854775808 ≤ y * 2 ^ lz y ∧ y * 2 ^ lz y < 18446744073709551616 := by
 obtain ⟨n, rfl⟩ := Int.eq_ofNat_of_zero_le (show 0 ≤ y by omega); have hn : n < 2 ^ 64 := by omega
 obtain ⟨b1, b2, b3⟩ := Lib.bitLenAux_bounds 64 n hn (by omega); have b4 := Lib.bitLen_le n 64 mle hn
 change 1 ≤ Lib.bitLen n at b1
 change 2 ^ (Lib.bitLen n - 1) ≤ n at b2
 change n < 2 ^ Lib.bitLen n at b3
 unfold lz; rw [Int.toNat_natCast]; generalize Lib.bitLen n = k at *; have e1 : 2 ^ (k - 1) * 2 ^ (64 - k) = 9223372036854775808 := by rw [← Nat.pow_add, show k - 1 + (64 - k) = 63 by omega]
 have e2 : 2 ^ k * 2 ^ (64 - k) = 18446744073709551616 := by rw [← Nat.pow_add, show k + (64 - k) = 64 by omega]
 have m1 : 2 ^ (k - 1) * 2 ^ (64 - k) ≤ n * 2 ^ (64 - k) := Nat.mul_le_mul_right _ b2; have m2 : n * 2 ^ (64 - k) < 2 ^ k * 2 ^ (64 - k) := Nat.mul_lt_mul_of_pos_right b3 (Nat.two_pow_pos _); have c : ((n * 2 ^ (64 - k) : Nat) : Int) = (n : Int) * 2 ^ (64 - k) := by simp
 exact ⟨by omega, by omega, by omega, by omega⟩
theorem pow_split (s : Nat) (h : s ≤ 64) : (2 : Int) ^ s * 2 ^ (64 - s) = 18446744073709551616 := by
 rw [← Int.pow_add, show s + (64 - s) = 64 by omega]; rfl
theorem pow_pos (s : Nat) : 0 < (2 : Int) ^ s := Int.pow_pos (by omega)
theorem and_mask (n : Int) (h0 : 0 ≤ n) (h1 : n < 18446744073709551616) : bits BinOp.and IntKind.u64 n 4294967295 = n % 4294967296 := by
 rw [u64_and n 4294967295 h0 h1 (by omega) (by omega)]; obtain ⟨k, rfl⟩ := Int.eq_ofNat_of_zero_le h0; rw [Int.toNat_natCast, show (4294967295 : Int).toNat = 2 ^ 32 - 1 from rfl, Nat.and_two_pow_sub_one_eq_mod]; omega
theorem or_join (hi lo y : Int) (s : Nat) (hs : s < 64) (h0 : 0 ≤ hi) (h1 : hi < y) (h2 : y * 2 ^ s < 18446744073709551616) (h3 : 0 ≤ lo) (h4 : lo < 18446744073709551616) :
  IntKind.u64.wrap (hi * 2 ^ s) = hi * 2 ^ s ∧ bits BinOp.or IntKind.u64 (hi * 2 ^ s) (lo / 2 ^ (64 - s)) = hi * 2 ^ s + lo / 2 ^ (64 - s) ∧
  0 ≤ hi * 2 ^ s + lo / 2 ^ (64 - s) ∧ hi * 2 ^ s + lo / 2 ^ (64 - s) < y * 2 ^ s ∧
  (hi * 2 ^ s + lo / 2 ^ (64 - s)) * 18446744073709551616 + IntKind.u64.wrap (lo * 2 ^ s) = (hi * 18446744073709551616 + lo) * 2 ^ s := by
 have hp := pow_pos s; have hq := pow_pos (64 - s); have hm := pow_split s (by omega); have a1 : 0 ≤ hi * 2 ^ s := Int.mul_nonneg h0 (by omega); have a2 : (hi + 1) * 2 ^ s ≤ y * 2 ^ s := Int.mul_le_mul_of_nonneg_right (by omega) (by omega); rw [Int.add_mul, Int.one_mul] at a2; have d0 : 0 ≤ lo / 2 ^ (64 - s) := Int.ediv_nonneg h3 (by omega); have d1 : lo / 2 ^ (64 - s) < 2 ^ s := by rw [Int.ediv_lt_iff_lt_mul hq, hm]; exact h4
 refine ⟨IntWalk.u64_in _ ⟨a1, by omega⟩, ?_, by omega, by omega, ?_⟩
 ·rw [u64_or _ _ a1 (by omega) d0 (by omega), nat_join s]
  ·omega
  ·have e : ((2 ^ s : Nat) : Int) = (2 : Int) ^ s := by simp
   have : (((hi * 2 ^ s).toNat % 2 ^ s : Nat) : Int) = 0 := by rw [Int.natCast_emod, Int.toNat_of_nonneg a1, e]; exact Int.mul_emod_left _ _
   omega
  ·have e : ((2 ^ s : Nat) : Int) = (2 : Int) ^ s := by simp
   omega
 ·rw [IntKind.wrap_u64]
  have e1 := Int.emod_add_ediv_mul lo (2 ^ (64 - s)); generalize hA : lo / 2 ^ (64 - s) = A at *; have n1 := Int.emod_nonneg lo (b := 2 ^ (64 - s)) (by omega); have n2 := Int.emod_lt_of_pos lo hq; generalize lo % 2 ^ (64 - s) = m at *; have e2 : lo * 2 ^ s = m * 2 ^ s + A * 18446744073709551616 := by rw [← hm, ← e1, Int.add_mul]; congr 1; rw [Int.mul_assoc, Int.mul_comm (2 ^ (64 - s)) (2 ^ s)]
  have n3 : 0 ≤ m * 2 ^ s := Int.mul_nonneg n1 (by omega); have n4 : m * 2 ^ s < 2 ^ (64 - s) * 2 ^ s := Int.mul_lt_mul_of_pos_right n2 hp; rw [Int.mul_comm (2 ^ (64 - s)), hm] at n4; rw [Int.add_mul (hi * 18446744073709551616)]; have e3 : hi * 18446744073709551616 * 2 ^ s = hi * 2 ^ s * 18446744073709551616 := by rw [Int.mul_assoc, Int.mul_comm 18446744073709551616, Int.mul_assoc]
  rw [e3, e2]; generalize m * 2 ^ s = M at *; generalize hi * 2 ^ s = H at *; omega
theorem digit {Y u c : Int} (h1 : 9223372036854775808 ≤ Y) (h2 : Y < 18446744073709551616) (hu : 0 ≤ u) (hu' : u < Y) (hc : 0 ≤ c) (hc' : c < 4294967296) :
  Digit Y (Y / 4294967296) (Y % 4294967296) u c := ⟨by omega, by omega, by omega, by omega, by omega, hu, hu', hc, hc'⟩
end Go.Proofs.YtmlfcpglhipjgaaGreat.Kn
