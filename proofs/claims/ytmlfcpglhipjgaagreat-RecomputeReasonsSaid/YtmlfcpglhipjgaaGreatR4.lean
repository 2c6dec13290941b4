/-
  PACKED (pack8.py): what is needed of the texts Sc, Sr, T21, T22.
-/
import Derived.Test.YtmlfcpglhipjgaaGreatR3
set_option maxRecDepth 100000
set_option maxHeartbeats 8000000
open Go.Value renaming int → I
open Go.IntKind renaming i64 → O
namespace Go.Proofs.YtmlfcpglhipjgaaGreat
namespace Sc
open Go.Lib Te
structure Brk where
 up : Int
 rate : Int
structure Sch where
 num : Int
 nm : ByteArray
 cond : Tm
 br : List Brk
 least : Int
 ex : Int
 needs : Bool
def bitB (x n : Int) : Bool := decide (x / 2 ^ n.toNat % 2 = 1)
def upB (l : List Brk) (k : Nat) : Int := if k = 0 then 0 else match l[k - 1]? with | some b => b.up | none => 0
def brAt (l : List Brk) (k : Nat) : Bool := match l[k]? with | some b => decide (upB l k < b.up) && (decide (b.up ≤ 268435456) && (decide (0 ≤ b.rate) && decide (b.rate ≤ 1048576))) | none => true
def brAll (l : List Brk) (n : Nat) : Bool := (List.range n).all (brAt l)
def brB (l : List Brk) : Bool := brAll l l.length && (decide (1 ≤ l.length) && decide (l.length ≤ 6))
theorem brAll_succ (l : List Brk) (n : Nat) : brAll l (n + 1) = (brAll l n && brAt l n) := by unfold brAll; rw [List.range_succ, List.all_append]; simp
theorem brAll_mono {l : List Brk} {m n : Nat} (h : m ≤ n) (h2 : brAll l n = true) : brAll l m = true := by
 unfold brAll at *; rw [List.all_eq_true] at *; intro i hi; exact h2 i (List.mem_range.2 (nll (List.mem_range.1 hi) h))
theorem brAt_some {l : List Brk} {k : Nat} (h : k < l.length) : brAt l k = (decide (upB l k < l[k].up) && (decide (l[k].up ≤ 268435456) && (decide (0 ≤ l[k].rate) && decide (l[k].rate ≤ 1048576)))) := by
 unfold brAt; rw [List.getElem?_eq_getElem h]
theorem upB_succ {l : List Brk} {k : Nat} (h : k < l.length) : upB l (k + 1) = l[k].up := by
 unfold upB; rw [if_neg (by omega), Nat.add_sub_cancel, List.getElem?_eq_getElem h]
theorem upB_nonneg {l : List Brk} {k : Nat} (hk : k ≤ l.length) (h : brAll l k = true) : 0 ≤ upB l k := by
 induction k with
 | zero => unfold upB; simp
 | succ k ih =>
   rw [brAll_succ, Bool.and_eq_true] at h; have h1 := ih (by omega) h.1; rw [upB_succ (by omega)]; have := h.2; rw [brAt_some (by omega), Bool.and_eq_true, decide_eq_true_eq] at this; omega
def one17 (s : Sch) : Int :=
 if s.num < 0 ∨ 15 < s.num ∨ s.least < 0 ∨ 268435456 < s.least then 2
 else if Wo.nameB s.nm.data.toList = false then 5
 else if chkT s.cond ≠ 0 then chkT s.cond
 else if brB s.br = false ∨ s.ex < 0 ∨ 65536 ≤ s.ex ∨ bitB s.ex s.num = true then 3
 else 0
def fst (f : Nat → Int) (n : Nat) : Option Nat := (List.range n).find? fun i => f i != 0
theorem fst_none {f : Nat → Int} {n : Nat} (h : ∀ j, j < n → f j = 0) : fst f n = none := by
 unfold fst; rw [List.find?_eq_none]; intro i hi; rw [h i (List.mem_range.1 hi)]
 decide
theorem fst_some {f : Nat → Int} {n k : Nat} (hk : k < n) (h : ∀ j, j < k → f j = 0) (h2 : f k ≠ 0) : fst f n = some k := by
 unfold fst; rw [List.find?_eq_some_iff_append]; refine ⟨by simpa using h2, List.range k, (List.range (n - k - 1)).map (k + 1 + ·), ?_, fun i hi => ?_⟩
 ·have : n = k + (n - k - 1 + 1) := by omega
  rw [this, List.range_add, List.range_succ_eq_map]
  simp
  intro a _; omega
 ·rw [h i (List.mem_range.1 hi)]; decide
def twice (L : List Sch) (i : Nat) (s : Sch) : Bool := (match i with | 0 => false | k + 1 => match L[k]? with | some p => decide (s.num ≤ p.num) | none => false) || (L.take i).any fun x => x.nm.data.toList == s.nm.data.toList
def errA (L : List Sch) (i : Nat) : Int := match L[i]? with | some s => if one17 s ≠ 0 then one17 s else if twice L i s = true then 6 else 0 | none => 0
def find17 (L : List Sch) (n : Int) : Int := match (L.findIdx? fun s => s.num == n) with | some i => (i : Int) | none => -1
def mutN (L : List Sch) (s : Sch) (n : Nat) : Bool := if bitB s.ex n = false then true else match L.find? fun x => x.num == (n : Int) with | some x => bitB x.ex s.num | none => false
def mutual17 (L : List Sch) (s : Sch) : Bool := (List.range 16).all (mutN L s)
def errB (L : List Sch) (i : Nat) : Int := match L[i]? with | some s => if mutual17 L s = true then 0 else 17 | none => 0
def chk17 (L : List Sch) : Int × Int :=
 if 16 < L.length then (0, 1)
 else match fst (errA L) L.length with
  | some i => ((i : Int), errA L i)
  | none => match fst (errB L) L.length with
    | some i => ((i : Int), 17)
    | none => (-1, 0)
def amt (l : List Brk) (sq : Int) (k : Nat) : Int := match k with | 0 => 0 | k + 1 => amt l sq k + match l[k]? with | some b => max 0 (min sq b.up - upB l k) * b.rate | none => 0
def amtE (s : Sch) (sq : Int) : Int := if one17 s ≠ 0 then 17 else if sq < 0 ∨ 268435456 < sq then 2 else 0
def amtV (s : Sch) (sq : Int) : Int := if amtE s sq ≠ 0 then 0 else amt s.br sq s.br.length / 100
/-! ### lines -/
/-! ### reading -/
end Sc
open Go.RowKit Te Sc
def bCells (b : Brk) : List Value := [I O b.up, I O b.rate]
def SBk : Shape Brk := ⟨2, bCells, fun _ => rfl, by decide, fun a u hu => by
 simp only [bCells, List.mem_cons, List.not_mem_nil, or_false] at hu
 rcases hu with rfl | rfl <;> rfl⟩
theorem info_brk : (Tryz.prog.info? 98).map (fun i => (i.zero, i.size, i.bytes)) = some (some (.agg #[I O 0, I O 0]), 2, 16) := by kernel_rfl
theorem el_brk : Elem SBk Tryz.prog 98 99 16 := by
 obtain ⟨i0, h1, h2, h3, h4⟩ := info_parts info_brk; exact ⟨⟨i0, _, h1, h2, h3, h4, rfl⟩, Tryz.underlying99⟩
theorem SBk_at {w : World} {p : Option Addr} {L : List Brk} (h : Recs SBk w p L) {k : Nat} (hk : k < L.length) :
  ∃ b off x, p = some ⟨b, off, none⟩ ∧ b < w.heap.size ∧ w.cell? ⟨b, off + k * 2, none⟩ = some (I O x.up) ∧ w.cell? ⟨b, off + k * 2 + 1, none⟩ = some (I O x.rate) ∧ Hid (L[k] = x) := by
 obtain ⟨b, off, hp, hb, hc⟩ := h.at hk; exact ⟨b, off, _, hp, hb, hc 0 _ rfl, hc 1 _ rfl, rfl⟩
structure RSx where
 num : Int
 nm : ByteArray
 t : RT
 bp : Option Addr
 bn : Nat
 bc : Nat
 least : Int
 ex : Int
 needs : Bool
def sCells (r : RSx) : List Value := [I O r.num, .string r.nm, I O r.t.op, I O r.t.num, I O r.t.more, .slice r.t.p r.t.n r.t.c, .slice r.bp r.bn r.bc, I O r.least, I O r.ex, .bool r.needs]
def SSc : Shape RSx := ⟨10, sCells, fun _ => rfl, by decide, fun a u hu => by
 simp only [sCells, List.mem_cons, List.not_mem_nil, or_false] at hu
 rcases hu with rfl | rfl | rfl | rfl | rfl | rfl | rfl | rfl | rfl | rfl <;> rfl⟩
theorem info_sch : (Tryz.prog.info? 101).map (fun i => (i.zero, i.size, i.bytes)) = some (some (.agg #[I O 0, .string ByteArray.empty, I O 0, I O 0, I O 0, .slice none 0 0, .slice none 0 0, I O 0, I O 0, .bool false]), 10, 120) := by kernel_rfl
theorem el_sch : Elem SSc Tryz.prog 101 23 120 := by
 obtain ⟨i0, h1, h2, h3, h4⟩ := info_parts info_sch; exact ⟨⟨i0, _, h1, h2, h3, h4, rfl⟩, Tryz.underlying23⟩
structure SV (Q : Nat → Prop) (w : World) (d : Nat) (r : RSx) (s : Sch) : Prop where
 num : r.num = s.num
 nm : r.nm = s.nm
 t : TV Q w d r.t s.cond
 br : Recs SBk w r.bp s.br
 bn : r.bn = s.br.length
 bc : r.bn ≤ r.bc
 bz : r.bp = none → r.bc = 0
 bq : ∀ a, r.bp = some a → s.br = [] ∨ Q a.block
 least : r.least = s.least
 ex : r.ex = s.ex
 needs : r.needs = s.needs
theorem SV.change {Q Q' : Nat → Prop} {w w' : World} {d : Nat} {r : RSx} {s : Sch} (h : SV Q w d r s) (hs : w.heap.size ≤ w'.heap.size) (hb : ∀ b, Q b → b < w.heap.size → w'.heap[b]? = w.heap[b]? ∧ Q' b) : SV Q' w' d r s := by
 have key : ∀ a, r.bp = some a → s.br = [] ∨ (w'.heap[a.block]? = w.heap[a.block]? ∧ Q' a.block) := fun a e => by
  rcases h.bq a e with h1 | h1
  ·exact .inl h1
  ·by_cases h0 : s.br = []
   ·exact .inl h0
   ·exact .inr (hb _ h1 (h.br.lt h0 e))
 exact ⟨h.num, h.nm, h.t.change hs hb, h.br.blocks hs fun a e => (key a e).imp id And.left, h.bn, h.bc, h.bz, fun a e => (key a e).imp id And.right, h.least, h.ex, h.needs⟩
theorem SV.below {Q : Nat → Prop} {w w' : World} {d : Nat} {r : RSx} {s : Sch} (h : SV Q w d r s) (hb : Below w.heap.size w w') : SV Q w' d r s := h.change hb.size fun b q hl => ⟨hb.block b hl, q⟩
theorem SV.deep {Q : Nat → Prop} {w : World} {d e : Nat} {r : RSx} {s : Sch} (h : SV Q w d r s) (he : d ≤ e) : SV Q w e r s := ⟨h.num, h.nm, h.t.deep he, h.br, h.bn, h.bc, h.bz, h.bq, h.least, h.ex, h.needs⟩
structure SsAt (Q : Nat → Prop) (w : World) (d : Nat) (p : Option Addr) (L : List Sch) : Prop where
 ex : ∃ R : List RSx, R.length = L.length ∧ Recs SSc w p R ∧ ∀ k (h : k < R.length) (h' : k < L.length), SV Q w d R[k] L[k]
 q : ∀ a, p = some a → L = [] ∨ Q a.block
theorem SsAt.change {Q Q' : Nat → Prop} {w w' : World} {d : Nat} {p : Option Addr} {L : List Sch} (h : SsAt Q w d p L) (hs : w.heap.size ≤ w'.heap.size) (hb : ∀ b, Q b → b < w.heap.size → w'.heap[b]? = w.heap[b]? ∧ Q' b) : SsAt Q' w' d p L := by
 obtain ⟨⟨R, h1, h2, h3⟩, h4⟩ := h; have hR : L = [] ↔ R = [] := by rw [← List.length_eq_zero_iff, ← List.length_eq_zero_iff, h1]
 have key : ∀ a, p = some a → L = [] ∨ (w'.heap[a.block]? = w.heap[a.block]? ∧ Q' a.block) := fun a e => by
  rcases h4 a e with h | h
  ·exact .inl h
  ·by_cases h0 : L = []
   ·exact .inl h0
   ·exact .inr (hb _ h (h2.lt (fun e => h0 (hR.2 e)) e))
 exact ⟨⟨R, h1, h2.blocks hs fun a e => (key a e).imp hR.1 And.left, fun k a b => (h3 k a b).change hs hb⟩, fun a e => (key a e).imp id And.right⟩
theorem SsAt.below {Q : Nat → Prop} {w w' : World} {d : Nat} {p : Option Addr} {L : List Sch} (h : SsAt Q w d p L) (hb : Below w.heap.size w w') : SsAt Q w' d p L := h.change hb.size fun b q hl => ⟨hb.block b hl, q⟩
theorem SsAt.len {Q : Nat → Prop} {w : World} {d : Nat} {p : Option Addr} {L : List Sch} (h : SsAt Q w d p L) : L.length ≤ 9223372036854775807 := by
 obtain ⟨⟨R, h1, h2, -⟩, -⟩ := h; rw [← h1]; exact h2.len
structure SCells (w : World) (b o : Nat) (r : RSx) : Prop where
 c0 : w.cell? ⟨b, o, none⟩ = some (I O r.num)
 c1 : w.cell? ⟨b, o + 1, none⟩ = some (.string r.nm)
 c2 : w.cell? ⟨b, o + 2, none⟩ = some (I O r.t.op)
 c3 : w.cell? ⟨b, o + 3, none⟩ = some (I O r.t.num)
 c4 : w.cell? ⟨b, o + 4, none⟩ = some (I O r.t.more)
 c5 : w.cell? ⟨b, o + 5, none⟩ = some (.slice r.t.p r.t.n r.t.c)
 c6 : w.cell? ⟨b, o + 6, none⟩ = some (.slice r.bp r.bn r.bc)
 c7 : w.cell? ⟨b, o + 7, none⟩ = some (I O r.least)
 c8 : w.cell? ⟨b, o + 8, none⟩ = some (I O r.ex)
 c9 : w.cell? ⟨b, o + 9, none⟩ = some (.bool r.needs)
theorem SCells.box (w : World) (r : RSx) (T : TypeId) : SCells (w.alloc (.cells #[I O r.num, .string r.nm, I O r.t.op, I O r.t.num, I O r.t.more, .slice r.t.p r.t.n r.t.c, .slice r.bp r.bn r.bc, I O r.least, I O r.ex, .bool r.needs] T)) w.heap.size 0 r :=
 ⟨cwn _ _ _ 0, cwn _ _ _ 1, cwn _ _ _ 2, cwn _ _ _ 3, cwn _ _ _ 4, cwn _ _ _ 5, cwn _ _ _ 6, cwn _ _ _ 7, cwn _ _ _ 8, cwn _ _ _ 9⟩
theorem SsAt.at {Q : Nat → Prop} {w : World} {d : Nat} {p : Option Addr} {L : List Sch} (h : SsAt Q w d p L) {k : Nat} (hk : k < L.length) :
  ∃ b off r, p = some ⟨b, off, none⟩ ∧ b < w.heap.size ∧ SCells w b (off + k * 10) r ∧ SV Q w d r L[k] := by
 obtain ⟨⟨R, h1, h2, h3⟩, -⟩ := h; have hk' : k < R.length := by omega
 obtain ⟨b, off, e, hl, hc⟩ := h2.at hk'; exact ⟨b, off, R[k], e, hl, ⟨hc 0 _ rfl, hc 1 _ rfl, hc 2 _ rfl, hc 3 _ rfl, hc 4 _ rfl, hc 5 _ rfl, hc 6 _ rfl, hc 7 _ rfl, hc 8 _ rfl, hc 9 _ rfl⟩, h3 k hk' hk⟩
theorem SsAt.take {Q : Nat → Prop} {w : World} {d : Nat} {p : Option Addr} {L : List Sch} (h : SsAt Q w d p L) (m : Nat) : SsAt Q w d p (L.take m) := by
 obtain ⟨⟨R, h1, h2, h3⟩, h4⟩ := h; refine ⟨⟨R.take m, by rw [List.length_take, List.length_take, h1], h2.take m, fun k a b => ?_⟩, fun a e => ?_⟩
 ·rw [List.getElem_take, List.getElem_take]
  exact h3 k _ _
 ·rcases h4 a e with h | h
  ·exact .inl (by rw [h]; simp)
  ·exact .inr h
theorem brB_bad {l : List Brk} {k : Nat} (hk : k < l.length) (h : brAt l k = false) : brB l = false := by
 unfold brB
 cases e : brAll l l.length with
 | false => rfl
 | true =>
   have := brAll_mono (show k + 1 ≤ l.length by omega) e; rw [brAll_succ, h, Bool.and_false] at this
   cases this
theorem brAt_parts {l : List Brk} {k : Nat} (hk : k < l.length) {up rate prev : Int} (e : l[k] = ⟨up, rate⟩) (hp : upB l k = prev) :
  (up ≤ prev ∨ 268435456 < up ∨ rate < 0 ∨ 1048576 < rate → brAt l k = false) ∧ (prev < up → up ≤ 268435456 → 0 ≤ rate → rate ≤ 1048576 → brAt l k = true) := by
 rw [brAt_some hk, e, hp]
 constructor
 ·intro h
  rw [Bool.eq_false_iff]; intro h2; simp only [Bool.and_eq_true, decide_eq_true_eq] at h2; omega
 ·intro h1 h2 h3 h4
  simp only [Bool.and_eq_true, decide_eq_true_eq]; exact ⟨h1, h2, h3, h4⟩
theorem brackets_any (p : Option Addr) (l : List Brk) (n c : Nat) (w : World) (hn : n = l.length) (h : Recs SBk w p l) : Calls Tryz.prog 133 #[.slice p n c] w (BoolG (brB l) w) := by
 subst hn; have hl := h.len; have H := mh h; clear h
 go_enter Tryz.func133, Tryz.ntmps133
 go_wp2
 go_loopw [7] (fun i wr => ∃ k : Nat, k ≤ l.length ∧ i = I O k ∧ brAll l k = true ∧ Below w.heap.size w wr) (fun i _ => l.length - (intOf i).toNat)
 case atStart => exact ⟨0, Nat.zero_le _, rfl, rfl, brf _ _⟩
 case round =>
  obtain ⟨wo, rfl⟩ : ∃ wo : World, wo = wr := ⟨_, rfl⟩; obtain ⟨k, hk, rfl, ha, hb⟩ := hrel; have HA := mh ha; have HB := mh hb; have hk0 : (0 : Int) ≤ (k : Int) := inn _
  by_cases hlt : k < l.length
  ·have hk1 : (k : Int) < (l.length : Int) := by omega
   obtain ⟨b, off, x, rfl, hbl, x0, x1, hx⟩ := SBk_at (H.out.below hb) hlt; have HH := mh (H.out.below hb); obtain ⟨up, rate⟩ := x; simp only at x0 x1; obtain ⟨prev, ep⟩ : ∃ pv, upB l k = pv := ⟨_, rfl⟩; have hpv : 0 ≤ prev := by rw [← ep]; exact upB_nonneg hk ha
   obtain ⟨bad, good⟩ := brAt_parts hlt hx.out ep; have BAD := mh (fun h => brB_bad hlt (bad h)); have GOOD := mh (fun h1 h2 h3 h4 => (show brAll l (k + 1) = true by rw [brAll_succ, HA.out, good h1 h2 h3 h4]; rfl)); have HP := mh ep; have HB1 := mh (balloc mle HB.out (.cells #[I O up, I O rate] 98)); clear ha hb hx ep bad good
   by_cases g1 : up < 1
   ·have HV := mh (BAD.out (.inl (by omega)))
    have d1 : decide (up < 1) = true := dqt g1; clear g1
    go_wp2_with fail
    go_quiet (fail)
    go_wp2
    go_ret
    exact ⟨ret_bool HV.out.symm, HB1.out.trans ((drewN_below _ _).mono HB1.out.size)⟩
   have d1 : decide (up < 1) = false := dqf g1
   by_cases g2 : 268435456 < up
   ·have HV := mh (BAD.out (.inr (.inl g2)))
    have d2 : decide (268435456 < up) = true := dqt g2; clear g1 g2
    go_wp2_with fail
    go_quiet (fail)
    go_wp2
    go_ret
    exact ⟨ret_bool HV.out.symm, HB1.out.trans ((drewN_below _ _).mono HB1.out.size)⟩
   have d2 : decide (268435456 < up) = false := dqf g2
   by_cases g3 : rate < 0
   ·have HV := mh (BAD.out (.inr (.inr (.inl g3))))
    have d3 : decide (rate < 0) = true := dqt g3; clear g1 g2 g3
    go_wp2_with fail
    go_quiet (fail)
    go_wp2
    go_ret
    exact ⟨ret_bool HV.out.symm, HB1.out.trans ((drewN_below _ _).mono HB1.out.size)⟩
   have d3 : decide (rate < 0) = false := dqf g3
   by_cases g4 : 1048576 < rate
   ·have HV := mh (BAD.out (.inr (.inr (.inr g4))))
    have d4 : decide (1048576 < rate) = true := dqt g4; clear g1 g2 g3 g4
    go_wp2_with fail
    go_quiet (fail)
    go_wp2
    go_ret
    exact ⟨ret_bool HV.out.symm, HB1.out.trans ((drewN_below _ _).mono HB1.out.size)⟩
   have d4 : decide (1048576 < rate) = false := dqf g4
   rcases Nat.eq_zero_or_pos k with hk00 | hkp
   ·have hk2 : decide (0 < k) = false := by rw [decide_eq_false_iff_not]; omega
    have hp0 : prev = 0 := by rw [← HP.out, hk00]; rfl
    have HN := mh (GOOD.out (by omega) (by omega) (by omega) (by omega)); clear hk00 hp0 g1 g2 g3 g4
    go_wp2_with fail
    go_quiet (fail)
    go_wp2
    go_roundw
    case rel => exact ⟨k + 1, by omega, by go_num, HN.out, HB1.out.trans ((drewN_below _ _).mono HB1.out.size)⟩
    case measure => simp [intOf]; omega
   ·obtain ⟨m, rfl⟩ : ∃ m, k = m + 1 := ⟨k - 1, by omega⟩
    obtain ⟨b', off', y, ey, -, y0, -, hy⟩ := SBk_at HH.out (show m < l.length by omega)
    cases ey
    have hyp : y.up = prev := by rw [← HP.out, upB_succ (show m < l.length by omega), hy.out]
    obtain ⟨yu, yr⟩ := y; simp only at y0 hyp; subst hyp; clear hy
    by_cases g5 : up ≤ yu
    ·have HV := mh (BAD.out (.inl g5))
     have d5 : decide (up ≤ yu) = true := dqt g5; clear g1 g2 g3 g4 g5
     go_wp2_with fail
     go_quiet (fail)
     go_wp2
     go_ret
     exact ⟨ret_bool HV.out.symm, HB1.out.trans ((drewN_below _ _).mono HB1.out.size)⟩
    ·have HN := mh (GOOD.out (by omega) (by omega) (by omega) (by omega))
     have d5 : decide (up ≤ yu) = false := dqf g5; clear g1 g2 g3 g4 g5
     go_wp2_with fail
     go_quiet (fail)
     go_wp2
     go_roundw
     case rel => exact ⟨m + 1 + 1, by omega, by go_num, HN.out, HB1.out.trans ((drewN_below _ _).mono HB1.out.size)⟩
     case measure => simp [intOf]; omega
  ·obtain rfl : k = l.length := by omega
   clear hb
   by_cases g1 : (l.length : Int) < 1
   ·have HV := mh (show brB l = false by
     unfold brB; rw [dqf (show ¬ 1 ≤ l.length by omega)]; simp)
    clear ha
    go_wp2
    go_ret
    exact ⟨ret_bool HV.out.symm, HB.out⟩
   by_cases g2 : (6 : Int) < (l.length : Int)
   ·have HV := mh (show brB l = false by
     unfold brB; rw [dqf (show ¬ l.length ≤ 6 by omega)]; simp)
    clear ha
    go_wp2
    go_ret
    exact ⟨ret_bool (by rw [HV.out]; first | rfl | exact dqf (by omega)), HB.out⟩
   ·have HV := mh (show brB l = true by
     unfold brB; rw [ha, dqt (show 1 ≤ l.length by omega), dqt (show l.length ≤ 6 by omega)]; rfl)
    clear ha
    go_wp2
    go_ret
    exact ⟨ret_bool (by rw [HV.out]), HB.out⟩
theorem refbrackets_any (p : Option Addr) (l : List Brk) (n c : Nat) (w : World) (hn : n = l.length) (h : Recs SBk w p l) : Calls Tryz.prog 138 #[.slice p n c] w (BoolG (brB l) w) := by
 subst hn; have hl := h.len
 by_cases g1 : (l.length : Int) < 1
 ·have HV := mh (show brB l = false by
   unfold brB; rw [dqf (show ¬ 1 ≤ l.length by omega)]; simp)
  clear h
  go_enter Tryz.func138, Tryz.ntmps138
  go_wp2
  go_ret
  exact ⟨ret_bool HV.out.symm, brf _ _⟩
 by_cases g2 : (6 : Int) < (l.length : Int)
 ·have HV := mh (show brB l = false by
   unfold brB; rw [dqf (show ¬ l.length ≤ 6 by omega)]; simp)
  clear h
  go_enter Tryz.func138, Tryz.ntmps138
  go_wp2
  go_ret
  exact ⟨ret_bool HV.out.symm, brf _ _⟩
 have H := mh h
 have EV := mh (show brAll l l.length = true → brB l = true from fun ha => by
  unfold brB; rw [ha, dqt (show 1 ≤ l.length by omega), dqt (show l.length ≤ 6 by omega)]; rfl)
 clear h
 go_enter Tryz.func138, Tryz.ntmps138
 go_wp2
 go_loopw [3, 16] (fun u i wr => ∃ k : Nat, k ≤ l.length ∧ i = I O k ∧ u = I O (upB l k) ∧ brAll l k = true ∧ Below w.heap.size w wr) (fun _ i _ => l.length - (intOf i).toNat)
 case atStart => exact ⟨0, Nat.zero_le _, rfl, rfl, rfl, brf _ _⟩
 case round =>
  obtain ⟨wo, rfl⟩ : ∃ wo : World, wo = wr := ⟨_, rfl⟩; obtain ⟨k, hk, rfl, rfl, ha, hb⟩ := hrel; have HA := mh ha; have HB := mh hb; have hk0 : (0 : Int) ≤ (k : Int) := inn _
  by_cases hlt : k < l.length
  ·have hk1 : (k : Int) < (l.length : Int) := by omega
   obtain ⟨b, off, x, rfl, hbl, x0, x1, hx⟩ := SBk_at (H.out.below hb) hlt; obtain ⟨up, rate⟩ := x; simp only at x0 x1; obtain ⟨prev, ep⟩ : ∃ pv, upB l k = pv := ⟨_, rfl⟩; rw [ep]; obtain ⟨bad, good⟩ := brAt_parts hlt hx.out ep; have BAD := mh (fun h => brB_bad hlt (bad h)); have GOOD := mh (fun h1 h2 h3 h4 => (show brAll l (k + 1) = true by rw [brAll_succ, HA.out, good h1 h2 h3 h4]; rfl)); have HN1 := mh (show upB l (k + 1) = up by rw [upB_succ hlt, hx.out]); have HB1 := mh (balloc mle HB.out (.cells #[I O up, I O rate] 98)); clear ha hb hx ep bad good
   by_cases g1 : up ≤ prev
   ·have HV := mh (BAD.out (.inl g1))
    go_wp2
    go_ret
    exact ⟨ret_bool HV.out.symm, HB1.out⟩
   by_cases g2 : 268435456 < up
   ·have HV := mh (BAD.out (.inr (.inl g2)))
    go_wp2
    go_ret
    exact ⟨ret_bool HV.out.symm, HB1.out⟩
   by_cases g3 : rate < 0
   ·have HV := mh (BAD.out (.inr (.inr (.inl g3))))
    go_wp2
    go_ret
    exact ⟨ret_bool HV.out.symm, HB1.out⟩
   by_cases g4 : 1048576 < rate
   ·have HV := mh (BAD.out (.inr (.inr (.inr g4))))
    go_wp2
    go_ret
    exact ⟨ret_bool HV.out.symm, HB1.out⟩
   ·have HN := mh (GOOD.out (by omega) (by omega) (by omega) (by omega))
    go_wp2
    go_roundw
    case rel => exact ⟨k + 1, by omega, by go_num, by rw [HN1.out], HN.out, HB1.out⟩
    case measure => simp [intOf]; omega
  ·obtain rfl : k = l.length := by omega
   have HV := mh (EV.out ha); clear hb ha
   go_wp2
   go_ret
   exact ⟨ret_bool HV.out.symm, HB.out⟩
theorem and_bit (v : Int) : bits BinOp.and IntKind.i64 v 1 = v % 2 := by
 have h1 : bits BinOp.and IntKind.i64 v 1 = IntKind.i64.wrap (((BitVec.ofInt 64 v &&& BitVec.ofInt 64 1 : BitVec 64).toNat : Nat) : Int) := rfl; rw [h1, BitVec.toNat_and, BitVec.toNat_ofInt, BitVec.toNat_ofInt, show ((1 : Int) % ((2 ^ 64 : Nat) : Int)).toNat = 1 from by decide, Nat.and_one_is_mod, IntKind.wrap_i64, show (((2 ^ 64 : Nat) : Int)) = 18446744073709551616 from by decide]; omega
theorem bit_one (x n : Int) : (bits BinOp.and IntKind.i64 (x / 2 ^ n.toNat) 1 == 1) = bitB x n := by
 rw [and_bit]; unfold bitB; rw [Bool.eq_iff_iff, beq_iff_eq, decide_eq_true_eq]
theorem bit_zero (x n : Int) : (bits BinOp.and IntKind.i64 (x / 2 ^ n.toNat) 1 == 0) = !bitB x n := by
 rw [and_bit]; unfold bitB; rw [Bool.eq_iff_iff, beq_iff_eq, Bool.not_eq_true', decide_eq_false_iff_not]; omega
def oneV (num least ex : Int) (nb : Bool) (ck : Int) (bb bit : Bool) : Int :=
 if num < 0 ∨ 15 < num ∨ least < 0 ∨ 268435456 < least then 2 else if nb = false then 5 else if ck ≠ 0 then ck else if bb = false ∨ ex < 0 ∨ 65536 ≤ ex ∨ bit = true then 3 else 0
theorem one_cases {num least ex : Int} {nb : Bool} {ck : Int} {bb bit : Bool} {v : Int} (h : oneV num least ex nb ck bb bit = v) :
  (num < 0 ∨ 15 < num ∨ least < 0 ∨ 268435456 < least → v = 2) ∧ (¬ (num < 0 ∨ 15 < num ∨ least < 0 ∨ 268435456 < least) → nb = false → v = 5) ∧
  (¬ (num < 0 ∨ 15 < num ∨ least < 0 ∨ 268435456 < least) → nb = true → ck ≠ 0 → v = ck) ∧
  (¬ (num < 0 ∨ 15 < num ∨ least < 0 ∨ 268435456 < least) → nb = true → ck = 0 → (bb = false ∨ ex < 0 ∨ 65536 ≤ ex ∨ bit = true) → v = 3) ∧
  (¬ (num < 0 ∨ 15 < num ∨ least < 0 ∨ 268435456 < least) → nb = true → ck = 0 → ¬ (bb = false ∨ ex < 0 ∨ 65536 ≤ ex ∨ bit = true) → v = 0) := by
 subst h; unfold oneV; refine ⟨fun h => by rw [if_pos h], fun h h2 => by rw [if_neg h, if_pos h2], fun h h2 h3 => by rw [if_neg h, if_neg (by rw [h2]; decide), if_pos h3], fun h h2 h3 h4 => ?_, fun h h2 h3 h4 => ?_⟩
 ·rw [if_neg h, if_neg (by rw [h2]; decide), if_neg (by omega), if_pos h4]
 ·rw [if_neg h, if_neg (by rw [h2]; decide), if_neg (by omega), if_neg h4]
theorem valid_any {Q : Nat → Prop} (d : Nat) (r : RSx) (s : Sch) (w : World) (h : SV Q w d r s) (hz : r.nm.size ≤ 9223372036854775807) :
  Calls Tryz.prog 95 #[.agg #[I O r.num, .string r.nm, I O r.t.op, I O r.t.num, I O r.t.more, .slice r.t.p r.t.n r.t.c, .slice r.bp r.bn r.bc, I O r.least, I O r.ex, .bool r.needs]] w (IntG (one17 s) w) := by
 have hA : Below w.heap.size w (w.alloc (.cells #[I O r.num, .string r.nm, I O r.t.op, I O r.t.num, I O r.t.more, .slice r.t.p r.t.n r.t.c, .slice r.bp r.bn r.bc, I O r.least, I O r.ex, .bool r.needs] 101)) := (brf _ _).alloc mle _; have NM := mh (show ∀ W, Calls Tryz.prog 131 #[.string r.nm] W (fun e w' => e = .returned (.bool (Wo.nameB s.nm.data.toList)) ∧ W = w') from fun W => h.nm ▸ name_any r.nm W hz); have CK := mh (check16_any d r.t s.cond _ (h.below hA).t); have BK := mh (fun (W : World) (hW : Below w.heap.size w W) => show Calls Tryz.prog 133 #[.slice r.bp r.bn r.bc] W (BoolG (brB s.br) W) from brackets_any r.bp s.br r.bn r.bc W h.bn (h.below hW).br); obtain ⟨v, ev⟩ : ∃ v, one17 s = v := ⟨_, rfl⟩; have OC := one_cases (show oneV r.num r.least r.ex (Wo.nameB s.nm.data.toList) (chkT s.cond) (brB s.br) (bitB r.ex r.num) = v from by rw [← ev, h.num, h.least, h.ex]; rfl); rw [ev]; obtain ⟨nb, enb⟩ : ∃ x, Wo.nameB s.nm.data.toList = x := ⟨_, rfl⟩; obtain ⟨ck, eck⟩ : ∃ x, chkT s.cond = x := ⟨_, rfl⟩; obtain ⟨bb, ebb⟩ : ∃ x, brB s.br = x := ⟨_, rfl⟩; rw [enb] at NM OC; rw [eck] at CK OC; rw [ebb] at BK OC; clear enb eck ebb h ev hz; obtain ⟨num, nm, ⟨o, tn, tm, tp, tl, tc⟩, bp, bn, bc, least, ex, needs⟩ := r; have HA := mh hA; clear hA; have HA0 := mh (show w.heap.size < (w.alloc (.cells #[I O num, .string nm, I O o, I O tn, I O tm, .slice tp tl tc, .slice bp bn bc, I O least, I O ex, .bool needs] 101)).heap.size by simp); obtain ⟨bit, ebit⟩ : ∃ x, bitB ex num = x := ⟨_, rfl⟩; have EB : (bits BinOp.and IntKind.i64 (ex / 2 ^ num.toNat) 1 == 1) = bit := by rw [bit_one, ebit]
 simp only [ebit] at OC; clear ebit; obtain ⟨O1, O2, O3, O4, O5⟩ := OC
 replace O1 := mh O1
 replace O2 := mh O2
 replace O3 := mh O3
 replace O4 := mh O4
 replace O5 := mh O5
 by_cases g : num < 0 ∨ 15 < num ∨ least < 0 ∨ 268435456 < least
 ·have HV := mh (O1.out g)
  have G := mh g; clear g
  by_cases g1 : num < 0
  ·go_enter Tryz.func95, Tryz.ntmps95
   go_wp2_with (fail)
   go_ret
   exact ⟨ret_int HV.out.symm, HA.out⟩
  by_cases g2 : 15 < num
  ·go_enter Tryz.func95, Tryz.ntmps95
   go_wp2_with (fail)
   go_ret
   exact ⟨ret_int HV.out.symm, HA.out⟩
  by_cases g3 : least < 0
  ·go_enter Tryz.func95, Tryz.ntmps95
   go_wp2_with (fail)
   go_ret
   exact ⟨ret_int HV.out.symm, HA.out⟩
  have g4 : 268435456 < least := by have := G.out; omega
  ·go_enter Tryz.func95, Tryz.ntmps95
   go_wp2_with (fail)
   go_ret
   exact ⟨ret_int HV.out.symm, HA.out⟩
 ·have hn0 : 0 ≤ num := by omega
  have hn1 : num ≤ 15 := by omega
  have hl0 : 0 ≤ least := by omega
  have hl1 : least ≤ 268435456 := by omega
  have G := mh g; clear g
  cases nb
  ·have HV := mh (O2.out G.out rfl)
   go_enter Tryz.func95, Tryz.ntmps95
   go_wp2_with (first | (go_at_call 131; (with_reducible refine cmo (NM.out _) ?_); rintro e w1 ⟨rfl, rfl⟩) | (go_at_call 132; (with_reducible refine cmo CK.out ?_); rintro e w2 ⟨rfl, hb2⟩; have HS2 := mh (show w.heap.size < w2.heap.size from nll HA0.out hb2.size); have BK1 := mh (BK.out _ (bstep mle HA.out hb2)); have HB2 := mh (bstep mle HA.out hb2); have hk0 := mcell hb2 0; have hk1 := mcell hb2 1; have hk2 := mcell hb2 2; have hk3 := mcell hb2 3; have hk4 := mcell hb2 4; have hk5 := mcell hb2 5; have hk6 := mcell hb2 6; have hk7 := mcell hb2 7; have hk8 := mcell hb2 8; have hk9 := mcell hb2 9; clear hb2) | (go_at_call 133; (with_reducible refine cmo BK1.out ?_); rintro e w3 ⟨rfl, hb3⟩; have hj0 := (hb3.cell (p := ⟨w.heap.size, 0, none⟩) (by have := HS2.out; omega)).trans hk0; have hj8 := (hb3.cell (p := ⟨w.heap.size, 8, none⟩) (by have := HS2.out; omega)).trans hk8; have HB3 := mh (bstep mle HB2.out hb3); clear hb3))
   go_ret
   exact ⟨ret_int HV.out.symm, HA.out⟩
  by_cases c0 : ck = 0
  ·have CZ : (ck == 0) = true := by rw [c0]; rfl
   subst c0
   cases bb
   ·have HV := mh (O4.out G.out rfl rfl (.inl rfl))
    go_enter Tryz.func95, Tryz.ntmps95
    go_wp2_with (first | (go_at_call 131; (with_reducible refine cmo (NM.out _) ?_); rintro e w1 ⟨rfl, rfl⟩) | (go_at_call 132; (with_reducible refine cmo CK.out ?_); rintro e w2 ⟨rfl, hb2⟩; have HS2 := mh (show w.heap.size < w2.heap.size from nll HA0.out hb2.size); have BK1 := mh (BK.out _ (bstep mle HA.out hb2)); have HB2 := mh (bstep mle HA.out hb2); have hk0 := mcell hb2 0; have hk1 := mcell hb2 1; have hk2 := mcell hb2 2; have hk3 := mcell hb2 3; have hk4 := mcell hb2 4; have hk5 := mcell hb2 5; have hk6 := mcell hb2 6; have hk7 := mcell hb2 7; have hk8 := mcell hb2 8; have hk9 := mcell hb2 9; clear hb2) | (go_at_call 133; (with_reducible refine cmo BK1.out ?_); rintro e w3 ⟨rfl, hb3⟩; have hj0 := (hb3.cell (p := ⟨w.heap.size, 0, none⟩) (by have := HS2.out; omega)).trans hk0; have hj8 := (hb3.cell (p := ⟨w.heap.size, 8, none⟩) (by have := HS2.out; omega)).trans hk8; have HB3 := mh (bstep mle HB2.out hb3); clear hb3))
    go_ret
    exact ⟨ret_int HV.out.symm, HB3.out⟩
   by_cases e1 : ex < 0
   ·have HV := mh (O4.out G.out rfl rfl (.inr (.inl e1)))
    go_enter Tryz.func95, Tryz.ntmps95
    go_wp2_with (first | (go_at_call 131; (with_reducible refine cmo (NM.out _) ?_); rintro e w1 ⟨rfl, rfl⟩) | (go_at_call 132; (with_reducible refine cmo CK.out ?_); rintro e w2 ⟨rfl, hb2⟩; have HS2 := mh (show w.heap.size < w2.heap.size from nll HA0.out hb2.size); have BK1 := mh (BK.out _ (bstep mle HA.out hb2)); have HB2 := mh (bstep mle HA.out hb2); have hk0 := mcell hb2 0; have hk1 := mcell hb2 1; have hk2 := mcell hb2 2; have hk3 := mcell hb2 3; have hk4 := mcell hb2 4; have hk5 := mcell hb2 5; have hk6 := mcell hb2 6; have hk7 := mcell hb2 7; have hk8 := mcell hb2 8; have hk9 := mcell hb2 9; clear hb2) | (go_at_call 133; (with_reducible refine cmo BK1.out ?_); rintro e w3 ⟨rfl, hb3⟩; have hj0 := (hb3.cell (p := ⟨w.heap.size, 0, none⟩) (by have := HS2.out; omega)).trans hk0; have hj8 := (hb3.cell (p := ⟨w.heap.size, 8, none⟩) (by have := HS2.out; omega)).trans hk8; have HB3 := mh (bstep mle HB2.out hb3); clear hb3))
    go_ret
    exact ⟨ret_int HV.out.symm, HB3.out⟩
   by_cases e2 : 65536 ≤ ex
   ·have HV := mh (O4.out G.out rfl rfl (.inr (.inr (.inl e2))))
    go_enter Tryz.func95, Tryz.ntmps95
    go_wp2_with (first | (go_at_call 131; (with_reducible refine cmo (NM.out _) ?_); rintro e w1 ⟨rfl, rfl⟩) | (go_at_call 132; (with_reducible refine cmo CK.out ?_); rintro e w2 ⟨rfl, hb2⟩; have HS2 := mh (show w.heap.size < w2.heap.size from nll HA0.out hb2.size); have BK1 := mh (BK.out _ (bstep mle HA.out hb2)); have HB2 := mh (bstep mle HA.out hb2); have hk0 := mcell hb2 0; have hk1 := mcell hb2 1; have hk2 := mcell hb2 2; have hk3 := mcell hb2 3; have hk4 := mcell hb2 4; have hk5 := mcell hb2 5; have hk6 := mcell hb2 6; have hk7 := mcell hb2 7; have hk8 := mcell hb2 8; have hk9 := mcell hb2 9; clear hb2) | (go_at_call 133; (with_reducible refine cmo BK1.out ?_); rintro e w3 ⟨rfl, hb3⟩; have hj0 := (hb3.cell (p := ⟨w.heap.size, 0, none⟩) (by have := HS2.out; omega)).trans hk0; have hj8 := (hb3.cell (p := ⟨w.heap.size, 8, none⟩) (by have := HS2.out; omega)).trans hk8; have HB3 := mh (bstep mle HB2.out hb3); clear hb3))
    go_ret
    exact ⟨ret_int HV.out.symm, HB3.out⟩
   cases bit
   ·have HV := mh (O5.out G.out rfl rfl (by simp; omega))
    go_enter Tryz.func95, Tryz.ntmps95
    go_wp2_with (first | (go_at_call 131; (with_reducible refine cmo (NM.out _) ?_); rintro e w1 ⟨rfl, rfl⟩) | (go_at_call 132; (with_reducible refine cmo CK.out ?_); rintro e w2 ⟨rfl, hb2⟩; have HS2 := mh (show w.heap.size < w2.heap.size from nll HA0.out hb2.size); have BK1 := mh (BK.out _ (bstep mle HA.out hb2)); have HB2 := mh (bstep mle HA.out hb2); have hk0 := mcell hb2 0; have hk1 := mcell hb2 1; have hk2 := mcell hb2 2; have hk3 := mcell hb2 3; have hk4 := mcell hb2 4; have hk5 := mcell hb2 5; have hk6 := mcell hb2 6; have hk7 := mcell hb2 7; have hk8 := mcell hb2 8; have hk9 := mcell hb2 9; clear hb2) | (go_at_call 133; (with_reducible refine cmo BK1.out ?_); rintro e w3 ⟨rfl, hb3⟩; have hj0 := (hb3.cell (p := ⟨w.heap.size, 0, none⟩) (by have := HS2.out; omega)).trans hk0; have hj8 := (hb3.cell (p := ⟨w.heap.size, 8, none⟩) (by have := HS2.out; omega)).trans hk8; have HB3 := mh (bstep mle HB2.out hb3); clear hb3))
    go_ret
    exact ⟨ret_int HV.out.symm, HB3.out⟩
   ·have HV := mh (O4.out G.out rfl rfl (.inr (.inr (.inr rfl))))
    go_enter Tryz.func95, Tryz.ntmps95
    go_wp2_with (first | (go_at_call 131; (with_reducible refine cmo (NM.out _) ?_); rintro e w1 ⟨rfl, rfl⟩) | (go_at_call 132; (with_reducible refine cmo CK.out ?_); rintro e w2 ⟨rfl, hb2⟩; have HS2 := mh (show w.heap.size < w2.heap.size from nll HA0.out hb2.size); have BK1 := mh (BK.out _ (bstep mle HA.out hb2)); have HB2 := mh (bstep mle HA.out hb2); have hk0 := mcell hb2 0; have hk1 := mcell hb2 1; have hk2 := mcell hb2 2; have hk3 := mcell hb2 3; have hk4 := mcell hb2 4; have hk5 := mcell hb2 5; have hk6 := mcell hb2 6; have hk7 := mcell hb2 7; have hk8 := mcell hb2 8; have hk9 := mcell hb2 9; clear hb2) | (go_at_call 133; (with_reducible refine cmo BK1.out ?_); rintro e w3 ⟨rfl, hb3⟩; have hj0 := (hb3.cell (p := ⟨w.heap.size, 0, none⟩) (by have := HS2.out; omega)).trans hk0; have hj8 := (hb3.cell (p := ⟨w.heap.size, 8, none⟩) (by have := HS2.out; omega)).trans hk8; have HB3 := mh (bstep mle HB2.out hb3); clear hb3))
    go_ret
    exact ⟨ret_int HV.out.symm, HB3.out⟩
  ·have HV := mh (O3.out G.out rfl c0)
   go_enter Tryz.func95, Tryz.ntmps95
   go_wp2_with (first | (go_at_call 131; (with_reducible refine cmo (NM.out _) ?_); rintro e w1 ⟨rfl, rfl⟩) | (go_at_call 132; (with_reducible refine cmo CK.out ?_); rintro e w2 ⟨rfl, hb2⟩; have HS2 := mh (show w.heap.size < w2.heap.size from nll HA0.out hb2.size); have BK1 := mh (BK.out _ (bstep mle HA.out hb2)); have HB2 := mh (bstep mle HA.out hb2); have hk0 := mcell hb2 0; have hk1 := mcell hb2 1; have hk2 := mcell hb2 2; have hk3 := mcell hb2 3; have hk4 := mcell hb2 4; have hk5 := mcell hb2 5; have hk6 := mcell hb2 6; have hk7 := mcell hb2 7; have hk8 := mcell hb2 8; have hk9 := mcell hb2 9; clear hb2) | (go_at_call 133; (with_reducible refine cmo BK1.out ?_); rintro e w3 ⟨rfl, hb3⟩; have hj0 := (hb3.cell (p := ⟨w.heap.size, 0, none⟩) (by have := HS2.out; omega)).trans hk0; have hj8 := (hb3.cell (p := ⟨w.heap.size, 8, none⟩) (by have := HS2.out; omega)).trans hk8; have HB3 := mh (bstep mle HB2.out hb3); clear hb3))
   go_ret
   exact ⟨ret_int HV.out.symm, HB2.out⟩
end Go.Proofs.YtmlfcpglhipjgaaGreat
