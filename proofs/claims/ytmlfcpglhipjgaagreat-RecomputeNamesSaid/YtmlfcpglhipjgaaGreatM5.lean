/-
  PACKED (pack8.py): what is needed of the texts Tr, Sr, Bs, Di, Kp, Tb, Yr, Gc.
-/
import Derived.Test.YtmlfcpglhipjgaaGreatM4
set_option maxRecDepth 100000
set_option maxHeartbeats 1000000
open Go.Value renaming int → I
open Go.IntKind renaming i64 → O
namespace Go.Proofs.YtmlfcpglhipjgaaGreat
open Go.RowKit Te
structure RT where
 op : Int
 num : Int
 more : Int
 p : Option Addr
 n : Nat
 c : Nat
def tCells (r : RT) : List Value := [I O r.op, I O r.num, I O r.more, .slice r.p r.n r.c]
def ST : Shape RT := ⟨4, tCells, fun _ => rfl, by decide, fun a u hu => by
 simp only [tCells, List.mem_cons, List.not_mem_nil, or_false] at hu
 rcases hu with rfl | rfl | rfl | rfl <;> rfl⟩
structure RT.Is (r : RT) (t : Tm) : Prop where
 op : r.op = t.op
 num : r.num = t.num
 more : r.more = t.more
 n : r.n = t.kids.length
 c : r.n ≤ r.c
 z : r.p = none → r.c = 0
def TmsAt (Q : Nat → Prop) (w : World) : Nat → Option Addr → List Tm → Prop
 | 0, _, K => K = []
 | d + 1, p, K => ∃ R : List RT, R.length = K.length ∧ Recs ST w p R ∧ (∀ a, p = some a → K = [] ∨ Q a.block) ∧ ∀ k (h : k < R.length) (h' : k < K.length), RT.Is R[k] K[k] ∧ TmsAt Q w d R[k].p K[k].kids
theorem TmsAt.nil (Q : Nat → Prop) (w : World) (d : Nat) (p : Option Addr) : TmsAt Q w d p [] := by
 cases d with
 | zero => rfl
 | succ d => exact ⟨[], rfl, Recs.nil _ _, fun _ _ => .inl rfl, fun k h => by simp at h⟩
theorem Recs.blocks {α : Type} {S : Shape α} {w w' : World} {p : Option Addr} {L : List α} (h : Recs S w p L) (hs : w.heap.size ≤ w'.heap.size) (hp : ∀ a, p = some a → L = [] ∨ w'.heap[a.block]? = w.heap[a.block]?) : Recs S w' p L := by
 refine ⟨h.1, ?_⟩
 rcases h.2 with e | ⟨b, off, e, hl, hc⟩
 ·exact .inl e
 rcases hp _ e with e0 | hp
 ·exact .inl e0
 ·exact .inr ⟨b, off, e, nll hl hs, fun n u hu => (World.cell?_of_block (w := w) (a := ⟨b, off + n, none⟩) hp).trans (hc n u hu)⟩
theorem Recs.lt {α : Type} {S : Shape α} {w : World} {p : Option Addr} {L : List α} (h : Recs S w p L) (h0 : L ≠ []) {a : Addr} (e : p = some a) : a.block < w.heap.size := by
 rcases h.2 with e0 | ⟨b, off, e1, hl, _⟩
 ·exact absurd e0 h0
 ·rw [e] at e1; cases e1; exact hl
theorem TmsAt.change {Q Q' : Nat → Prop} {w w' : World} (hs : w.heap.size ≤ w'.heap.size) (hb : ∀ b, Q b → b < w.heap.size → w'.heap[b]? = w.heap[b]? ∧ Q' b) : ∀ {d : Nat} {p : Option Addr} {K : List Tm}, TmsAt Q w d p K → TmsAt Q' w' d p K
 | 0, _, _, h => h
 | d + 1, p, K, ⟨R, h1, h2, h3, h4⟩ => by
   have hR : K = [] ↔ R = [] := by rw [← List.length_eq_zero_iff, ← List.length_eq_zero_iff, h1]
   have key : ∀ a, p = some a → K = [] ∨ (w'.heap[a.block]? = w.heap[a.block]? ∧ Q' a.block) := fun a e => by
    rcases h3 a e with h | h
    ·exact .inl h
    ·by_cases h0 : K = []
     ·exact .inl h0
     ·exact .inr (hb _ h (h2.lt (fun e => h0 (hR.2 e)) e))
   refine ⟨R, h1, h2.blocks hs fun a e => (key a e).imp hR.1 And.left, fun a e => (key a e).imp id And.right, fun k hk hk' => ⟨(h4 k hk hk').1, TmsAt.change hs hb (h4 k hk hk').2⟩⟩
theorem TmsAt.below {Q : Nat → Prop} {w w' : World} {d : Nat} {p : Option Addr} {K : List Tm} (h : TmsAt Q w d p K) (hb : Below w.heap.size w w') : TmsAt Q w' d p K := h.change hb.size fun b q hl => ⟨hb.block b hl, q⟩
theorem TmsAt.deeper {Q : Nat → Prop} {w : World} : ∀ {d : Nat} {p : Option Addr} {K : List Tm}, TmsAt Q w d p K → TmsAt Q w (d + 1) p K
 | 0, _, _, h => by cases (show _ = [] from h); exact TmsAt.nil _ _ _ _
 | _ + 1, _, _, ⟨R, h1, h2, h3, h4⟩ => ⟨R, h1, h2, h3, fun k hk hk' => ⟨(h4 k hk hk').1, (h4 k hk hk').2.deeper⟩⟩
theorem TmsAt.deep {Q : Nat → Prop} {w : World} {d e : Nat} {p : Option Addr} {K : List Tm} (h : TmsAt Q w d p K) (he : d ≤ e) : TmsAt Q w e p K := by
 induction he with
 | refl => exact h
 | step _ ih => exact ih.deeper
structure TCells (w : World) (b o : Nat) (r : RT) : Prop where
 c0 : w.cell? ⟨b, o, none⟩ = some (I O r.op)
 c1 : w.cell? ⟨b, o + 1, none⟩ = some (I O r.num)
 c2 : w.cell? ⟨b, o + 2, none⟩ = some (I O r.more)
 c3 : w.cell? ⟨b, o + 3, none⟩ = some (.slice r.p r.n r.c)
structure TV (Q : Nat → Prop) (w : World) (d : Nat) (r : RT) (t : Tm) : Prop where
 is : r.Is t
 at_ : TmsAt Q w d r.p t.kids
theorem TV.below {Q : Nat → Prop} {w w' : World} {d : Nat} {r : RT} {t : Tm} (h : TV Q w d r t) (hb : Below w.heap.size w w') : TV Q w' d r t := ⟨h.is, h.at_.below hb⟩
theorem TV.change {Q Q' : Nat → Prop} {w w' : World} {d : Nat} {r : RT} {t : Tm} (h : TV Q w d r t) (hs : w.heap.size ≤ w'.heap.size) (hb : ∀ b, Q b → b < w.heap.size → w'.heap[b]? = w.heap[b]? ∧ Q' b) : TV Q' w' d r t := ⟨h.is, h.at_.change hs hb⟩
theorem TV.deep {Q : Nat → Prop} {w : World} {d e : Nat} {r : RT} {t : Tm} (h : TV Q w d r t) (he : d ≤ e) : TV Q w e r t := ⟨h.is, h.at_.deep he⟩
theorem TmsAt.len {Q : Nat → Prop} {w : World} {d : Nat} {p : Option Addr} {K : List Tm} (h : TmsAt Q w d p K) : K.length ≤ 9223372036854775807 := by
 cases d with
 | zero => cases (show _ = [] from h); simp
 | succ d => obtain ⟨R, h1, h2, -⟩ := h; rw [← h1]; exact h2.len
theorem TmsAt.kid {Q : Nat → Prop} {w : World} {d : Nat} {p : Option Addr} {K : List Tm} (h : TmsAt Q w d p K) {k : Nat} (hk : k < K.length) :
  ∃ e b off r, d = e + 1 ∧ p = some ⟨b, off, none⟩ ∧ b < w.heap.size ∧ TCells w b (off + k * 4) r ∧ TV Q w e r K[k] := by
 cases d with
 | zero => cases (show _ = [] from h); simp at hk
 | succ d =>
   obtain ⟨R, h1, h2, h3, h4⟩ := h; have hk' : k < R.length := by omega
   obtain ⟨b, off, e, hl, hc⟩ := h2.at hk'; exact ⟨d, b, off, R[k], rfl, e, hl, ⟨hc 0 _ rfl, hc 1 _ rfl, hc 2 _ rfl, hc 3 _ rfl⟩, (h4 k hk' hk).1, (h4 k hk' hk).2⟩
open Sc
def bCells (b : Brk) : List Value := [I O b.up, I O b.rate]
def SBk : Shape Brk := ⟨2, bCells, fun _ => rfl, by decide, fun a u hu => by
 simp only [bCells, List.mem_cons, List.not_mem_nil, or_false] at hu
 rcases hu with rfl | rfl <;> rfl⟩
theorem info_brk : (Tryz.prog.info? 98).map (fun i => (i.zero, i.size, i.bytes)) = some (some (.agg #[I O 0, I O 0]), 2, 16) := by kernel_rfl
theorem el_brk : Elem SBk Tryz.prog 98 99 16 := by
 obtain ⟨i0, h1, h2, h3, h4⟩ := info_parts info_brk; exact ⟨⟨i0, _, h1, h2, h3, h4, rfl⟩, Tryz.underlying99⟩
theorem SBk_at {w : World} {p : Option Addr} {L : List Brk} (h : Recs SBk w p L) {k : Nat} (hk : k < L.length) :
  ∃ b off x, p = some ⟨b, off, none⟩ ∧ b < w.heap.size ∧ w.cell? ⟨b, off + k * 2, none⟩ = some (I O x.up) ∧ w.cell? ⟨b, off + k * 2 + 1, none⟩ = some (I O x.rate) ∧ Hid (L[k] = x) := by
 obtain ⟨b, off, hp, hb, hc⟩ := h.at hk; exact ⟨b, off, _, hp, hb, hc 0 _ rfl, hc 1 _ rfl, rfl⟩
structure RSx where
 num : Int
 nm : ByteArray
 t : RT
 bp : Option Addr
 bn : Nat
 bc : Nat
 least : Int
 ex : Int
 needs : Bool
def sCells (r : RSx) : List Value := [I O r.num, .string r.nm, I O r.t.op, I O r.t.num, I O r.t.more, .slice r.t.p r.t.n r.t.c, .slice r.bp r.bn r.bc, I O r.least, I O r.ex, .bool r.needs]
def SSc : Shape RSx := ⟨10, sCells, fun _ => rfl, by decide, fun a u hu => by
 simp only [sCells, List.mem_cons, List.not_mem_nil, or_false] at hu
 rcases hu with rfl | rfl | rfl | rfl | rfl | rfl | rfl | rfl | rfl | rfl <;> rfl⟩
theorem info_sch : (Tryz.prog.info? 101).map (fun i => (i.zero, i.size, i.bytes)) = some (some (.agg #[I O 0, .string ByteArray.empty, I O 0, I O 0, I O 0, .slice none 0 0, .slice none 0 0, I O 0, I O 0, .bool false]), 10, 120) := by kernel_rfl
theorem el_sch : Elem SSc Tryz.prog 101 23 120 := by
 obtain ⟨i0, h1, h2, h3, h4⟩ := info_parts info_sch; exact ⟨⟨i0, _, h1, h2, h3, h4, rfl⟩, Tryz.underlying23⟩
structure SV (Q : Nat → Prop) (w : World) (d : Nat) (r : RSx) (s : Sch) : Prop where
 num : r.num = s.num
 nm : r.nm = s.nm
 t : TV Q w d r.t s.cond
 br : Recs SBk w r.bp s.br
 bn : r.bn = s.br.length
 bc : r.bn ≤ r.bc
 bz : r.bp = none → r.bc = 0
 bq : ∀ a, r.bp = some a → s.br = [] ∨ Q a.block
 least : r.least = s.least
 ex : r.ex = s.ex
 needs : r.needs = s.needs
theorem SV.change {Q Q' : Nat → Prop} {w w' : World} {d : Nat} {r : RSx} {s : Sch} (h : SV Q w d r s) (hs : w.heap.size ≤ w'.heap.size) (hb : ∀ b, Q b → b < w.heap.size → w'.heap[b]? = w.heap[b]? ∧ Q' b) : SV Q' w' d r s := by
 have key : ∀ a, r.bp = some a → s.br = [] ∨ (w'.heap[a.block]? = w.heap[a.block]? ∧ Q' a.block) := fun a e => by
  rcases h.bq a e with h1 | h1
  ·exact .inl h1
  ·by_cases h0 : s.br = []
   ·exact .inl h0
   ·exact .inr (hb _ h1 (h.br.lt h0 e))
 exact ⟨h.num, h.nm, h.t.change hs hb, h.br.blocks hs fun a e => (key a e).imp id And.left, h.bn, h.bc, h.bz, fun a e => (key a e).imp id And.right, h.least, h.ex, h.needs⟩
theorem SV.below {Q : Nat → Prop} {w w' : World} {d : Nat} {r : RSx} {s : Sch} (h : SV Q w d r s) (hb : Below w.heap.size w w') : SV Q w' d r s := h.change hb.size fun b q hl => ⟨hb.block b hl, q⟩
theorem SV.deep {Q : Nat → Prop} {w : World} {d e : Nat} {r : RSx} {s : Sch} (h : SV Q w d r s) (he : d ≤ e) : SV Q w e r s := ⟨h.num, h.nm, h.t.deep he, h.br, h.bn, h.bc, h.bz, h.bq, h.least, h.ex, h.needs⟩
structure SsAt (Q : Nat → Prop) (w : World) (d : Nat) (p : Option Addr) (L : List Sch) : Prop where
 ex : ∃ R : List RSx, R.length = L.length ∧ Recs SSc w p R ∧ ∀ k (h : k < R.length) (h' : k < L.length), SV Q w d R[k] L[k]
 q : ∀ a, p = some a → L = [] ∨ Q a.block
theorem SsAt.change {Q Q' : Nat → Prop} {w w' : World} {d : Nat} {p : Option Addr} {L : List Sch} (h : SsAt Q w d p L) (hs : w.heap.size ≤ w'.heap.size) (hb : ∀ b, Q b → b < w.heap.size → w'.heap[b]? = w.heap[b]? ∧ Q' b) : SsAt Q' w' d p L := by
 obtain ⟨⟨R, h1, h2, h3⟩, h4⟩ := h; have hR : L = [] ↔ R = [] := by rw [← List.length_eq_zero_iff, ← List.length_eq_zero_iff, h1]
 have key : ∀ a, p = some a → L = [] ∨ (w'.heap[a.block]? = w.heap[a.block]? ∧ Q' a.block) := fun a e => by
  rcases h4 a e with h | h
  ·exact .inl h
  ·by_cases h0 : L = []
   ·exact .inl h0
   ·exact .inr (hb _ h (h2.lt (fun e => h0 (hR.2 e)) e))
 exact ⟨⟨R, h1, h2.blocks hs fun a e => (key a e).imp hR.1 And.left, fun k a b => (h3 k a b).change hs hb⟩, fun a e => (key a e).imp id And.right⟩
theorem SsAt.below {Q : Nat → Prop} {w w' : World} {d : Nat} {p : Option Addr} {L : List Sch} (h : SsAt Q w d p L) (hb : Below w.heap.size w w') : SsAt Q w' d p L := h.change hb.size fun b q hl => ⟨hb.block b hl, q⟩
theorem SsAt.len {Q : Nat → Prop} {w : World} {d : Nat} {p : Option Addr} {L : List Sch} (h : SsAt Q w d p L) : L.length ≤ 9223372036854775807 := by
 obtain ⟨⟨R, h1, h2, -⟩, -⟩ := h; rw [← h1]; exact h2.len
structure SCells (w : World) (b o : Nat) (r : RSx) : Prop where
 c0 : w.cell? ⟨b, o, none⟩ = some (I O r.num)
 c1 : w.cell? ⟨b, o + 1, none⟩ = some (.string r.nm)
 c2 : w.cell? ⟨b, o + 2, none⟩ = some (I O r.t.op)
 c3 : w.cell? ⟨b, o + 3, none⟩ = some (I O r.t.num)
 c4 : w.cell? ⟨b, o + 4, none⟩ = some (I O r.t.more)
 c5 : w.cell? ⟨b, o + 5, none⟩ = some (.slice r.t.p r.t.n r.t.c)
 c6 : w.cell? ⟨b, o + 6, none⟩ = some (.slice r.bp r.bn r.bc)
 c7 : w.cell? ⟨b, o + 7, none⟩ = some (I O r.least)
 c8 : w.cell? ⟨b, o + 8, none⟩ = some (I O r.ex)
 c9 : w.cell? ⟨b, o + 9, none⟩ = some (.bool r.needs)
theorem SCells.box (w : World) (r : RSx) (T : TypeId) : SCells (w.alloc (.cells #[I O r.num, .string r.nm, I O r.t.op, I O r.t.num, I O r.t.more, .slice r.t.p r.t.n r.t.c, .slice r.bp r.bn r.bc, I O r.least, I O r.ex, .bool r.needs] T)) w.heap.size 0 r :=
 ⟨cwn _ _ _ 0, cwn _ _ _ 1, cwn _ _ _ 2, cwn _ _ _ 3, cwn _ _ _ 4, cwn _ _ _ 5, cwn _ _ _ 6, cwn _ _ _ 7, cwn _ _ _ 8, cwn _ _ _ 9⟩
theorem SsAt.at {Q : Nat → Prop} {w : World} {d : Nat} {p : Option Addr} {L : List Sch} (h : SsAt Q w d p L) {k : Nat} (hk : k < L.length) :
  ∃ b off r, p = some ⟨b, off, none⟩ ∧ b < w.heap.size ∧ SCells w b (off + k * 10) r ∧ SV Q w d r L[k] := by
 obtain ⟨⟨R, h1, h2, h3⟩, -⟩ := h; have hk' : k < R.length := by omega
 obtain ⟨b, off, e, hl, hc⟩ := h2.at hk'; exact ⟨b, off, R[k], e, hl, ⟨hc 0 _ rfl, hc 1 _ rfl, hc 2 _ rfl, hc 3 _ rfl, hc 4 _ rfl, hc 5 _ rfl, hc 6 _ rfl, hc 7 _ rfl, hc 8 _ rfl, hc 9 _ rfl⟩, h3 k hk' hk⟩
theorem SsAt.take {Q : Nat → Prop} {w : World} {d : Nat} {p : Option Addr} {L : List Sch} (h : SsAt Q w d p L) (m : Nat) : SsAt Q w d p (L.take m) := by
 obtain ⟨⟨R, h1, h2, h3⟩, h4⟩ := h; refine ⟨⟨R.take m, by rw [List.length_take, List.length_take, h1], h2.take m, fun k a b => ?_⟩, fun a e => ?_⟩
 ·rw [List.getElem_take, List.getElem_take]
  exact h3 k _ _
 ·rcases h4 a e with h | h
  ·exact .inl (by rw [h]; simp)
  ·exact .inr h
theorem bdrew' {B : Nat} {w w1 : World} (h : Below B w.drew w1) : Below B w w1 := ⟨h.os, h.tape, h.output, h.size, h.block⟩
theorem bstep {B : Nat} {w w1 w2 : World} (hs : B ≤ w.heap.size) (h : Below B w w1) (h2 : Below w1.heap.size w1 w2) : Below B w w2 := bnext h (Nat.le_trans hs h.size) h2
theorem balloc {B : Nat} {w w1 : World} (hs : B ≤ w.heap.size) (h : Below B w w1) (o : Obj) : Below B w (w1.alloc o) := h.alloc (Nat.le_trans hs h.size) o
def Pairs (w : World) (p : Option Addr) (D : List (Int × Int)) : Prop :=
 D.length ≤ maxLen ∧ (D = [] ∨ ∃ b off, p = some ⟨b, off, none⟩ ∧ b < w.heap.size ∧
  ∀ j, j < D.length → w.cell? ⟨b, off + j * 2, none⟩ = some (I O (D.getD j (0, 0)).1) ∧ w.cell? ⟨b, off + j * 2 + 1, none⟩ = some (I O (D.getD j (0, 0)).2))
theorem Pairs.nil (w : World) (p : Option Addr) : Pairs w p [] := ⟨by simp, .inl rfl⟩
theorem Pairs.below {w w' : World} {p : Option Addr} {D : List (Int × Int)} (h : Pairs w p D) (hb : Below w.heap.size w w') : Pairs w' p D := by
 refine ⟨h.1, ?_⟩
 rcases h.2 with h | ⟨b, off, hp, hl, hc⟩
 ·exact .inl h
 ·exact .inr ⟨b, off, hp, nll hl hb.size, fun j hj => ⟨(hb.cell (p := ⟨b, off + j * 2, none⟩) hl).trans (hc j hj).1, (hb.cell (p := ⟨b, off + j * 2 + 1, none⟩) hl).trans (hc j hj).2⟩⟩
theorem Pairs.get {w : World} {p : Option Addr} {D : List (Int × Int)} (h : Pairs w p D) {k : Nat} (hk : k < D.length) :
  ∃ b off x y, p = some ⟨b, off, none⟩ ∧ b < w.heap.size ∧ w.cell? ⟨b, off + k * 2, none⟩ = some (I O x) ∧ w.cell? ⟨b, off + k * 2 + 1, none⟩ = some (I O y) ∧ Hid (D.getD k (0, 0) = (x, y)) := by
 rcases h.2 with rfl | ⟨b, off, hp, hl, hc⟩
 ·simp at hk
 ·exact ⟨b, off, _, _, hp, hl, (hc k hk).1, (hc k hk).2, rfl⟩
theorem Pairs.len {w : World} {p : Option Addr} {D : List (Int × Int)} (h : Pairs w p D) : D.length ≤ 9223372036854775807 := by
 have := h.1; unfold maxLen at this; omega
structure Two (w : World) (b : Nat) (x y : Int) : Prop where
 lt : b < w.heap.size
 c0 : w.cell? ⟨b, 0, none⟩ = some (I O x)
 c1 : w.cell? ⟨b, 1, none⟩ = some (I O y)
 f0 : w.frozen? ⟨b, 0, none⟩ = false
 f1 : w.frozen? ⟨b, 1, none⟩ = false
/-! ### a slice of pairs that the call itself appends to_ -/
def pcells (D : List (Int × Int)) : List Value := D.flatMap fun d => [I O d.1, I O d.2]
theorem pcells_append (D E : List (Int × Int)) : pcells (D ++ E) = pcells D ++ pcells E := by unfold pcells; rw [List.flatMap_append]
theorem pcells_at (D : List (Int × Int)) (j : Nat) (hj : j < D.length) : (pcells D)[j * 2]? = some (I O (D.getD j (0, 0)).1) ∧ (pcells D)[j * 2 + 1]? = some (I O (D.getD j (0, 0)).2) := by
 induction D generalizing j with
 | nil => simp at hj
 | cons d D ih =>
   show ([Value.int .i64 d.1, I O d.2] ++ pcells D)[j * 2]? = _ ∧ ([Value.int .i64 d.1, I O d.2] ++ pcells D)[j * 2 + 1]? = _
   match j with
   | 0 => exact ⟨rfl, rfl⟩
   | j + 1 =>
     have h := ih j (by simpa using hj); rw [List.getElem?_append_right (by simp; omega), List.getElem?_append_right (by simp; omega)]; have e1 : (j + 1) * 2 - [Value.int .i64 d.1, I O d.2].length = j * 2 := by simp; omega
     have e2 : (j + 1) * 2 + 1 - [Value.int .i64 d.1, I O d.2].length = j * 2 + 1 := by simp; omega
     rw [e1, e2, h.1, h.2]
     simp
def OwnP (w : World) (T : TypeId) (B : Nat) (v : Value) (D : List (Int × Int)) : Prop := w.ownsRow B T 2 v D.length (pcells D)
theorem OwnP.nil (w : World) (T : TypeId) (B : Nat) : OwnP w T B (.slice none 0 0) [] := World.ownsRow_nil w B T 2
theorem OwnP.pairs {w : World} {T : TypeId} {B : Nat} {v : Value} {D : List (Int × Int)} (h : OwnP w T B v D) : ∃ p cap, v = .slice p D.length cap ∧ Pairs w p D := by
 rcases h.2 with ⟨hv, hn⟩ | ⟨g, cap, cur, hv, hB, hg, hle, hm, hs, ht⟩
 ·obtain rfl := List.length_eq_zero_iff.1 hn
  exact ⟨none, 0, hv, Pairs.nil _ _⟩
 ·have e : ∀ i v, i < D.length * 2 → (pcells D)[i]? = some v → w.cell? ⟨g, i, none⟩ = some v := fun i v hi hv => by
   have := congrArg (fun l => l[i]?) ht; simp only [List.getElem?_take, if_pos hi] at this; rw [hv] at this; simp only [World.cell?, hg]
   simpa using this
  refine ⟨_, cap, hv, by omega, .inr ⟨g, 0, rfl, (Array.getElem?_eq_some_iff.1 hg).1, fun j hj => ?_⟩⟩
  have hp := pcells_at D j hj; rw [Nat.zero_add]; exact ⟨e _ _ (by omega) hp.1, e _ _ (by omega) hp.2⟩
theorem OwnP.append {P : Program} {T TS : TypeId} {i0 : TypeInfo} (hi : P.info? T = some i0) (hz0 : i0.zero = some (.agg #[I O 0, I O 0])) (hz1 : i0.size = 2) (hz2 : i0.bytes = 16) (ht : P.underlying TS = some (.slice T)) {w : World} {ops : Array Oper} {rest : List Oper} {o : Oper} {a : Act} {Q : Exit → Act → World → Prop} (hgd : o.guard = none) (s x : Operand)
  (ho : o.op = .call { callee := .builtin .append, args := #[s, x], argTypes := #[TS, TS] }) (B : Nat) (v : Value) (D : List (Int × Int)) (y z : Int) (hown : OwnP w T B v D) (hs : a.eval s = v)
  (hx : a.eval x = .slice (some ⟨w.heap.size, 0, none⟩) 1 1) (hB : B ≤ w.heap.size) (hn : D.length < 1099511627776)
  (h : ∀ v' w', OwnP w' T B v' (D ++ [(y, z)]) → Below B w w' → wpList P ops Q rest (a.put o.dst v') w') : wpList P ops Q (o :: rest) a (w.alloc (.cells #[I O y, I O z] T)) := by
 refine wpList_append_own _ hgd s x TS ho B T i0 (.agg #[I O 0, I O 0]) 2 16 ht hi hz0 hz1 hz2 rfl (by decide) v D.length (pcells D) hs (World.ownsRow.alloc hown _) ⟨w.heap.size, 0, none⟩ 1 1 [I O y, I O z] hx rfl ?_ (by simp [Value.oneCell']) (by unfold maxLen; omega) (by omega) (by simp; omega) ?_
 ·intro j u hu
  match j, hu with
  | 0, hu => simp at hu; subst hu; go_simp
  | 1, hu => simp at hu; subst hu; go_simp
 intro v' w' h1 h2 _; refine h v' w' ?_ ?_
 ·unfold OwnP
  rw [lap, pcells_append]; exact h1
 ·refine (((brf B w).alloc hB _).grown h2 (by simp; omega) fun k hk => ?_)
  exact (World.ownsRow.lt hown k hk).1
def mod (k n : Int) : Int := if n < 1 then 0 else k % n
theorem mod_bd (k : Int) {n : Int} (h : 1 ≤ n) : 0 ≤ mod k n ∧ mod k n < n := by
 unfold mod; rw [if_neg (by omega)]; exact ⟨Int.emod_nonneg _ (by omega), Int.emod_lt_of_pos _ (by omega)⟩
theorem mod_any (k n : Int) (w : World) (_hk : -9223372036854775808 ≤ k) (hn : n ≤ 9223372036854775807) :
  Calls Tryz.prog 20 #[I O k, I O n] w fun e w' => e = .returned (I O (mod k n)) ∧ w = w' := by
 unfold mod
 by_cases h : n < 1
 ·rw [if_pos h]
  go_enter Tryz.func20, Tryz.ntmps20
  go_wp2
  go_ret
  exact ⟨rfl, rfl⟩
 ·rw [if_neg h]
  have h2 := Int.tmod_eq_emod (a := k) (b := n); have e1 := Int.emod_lt_of_pos k (show 0 < n by omega); have e2 := Int.emod_nonneg k (show n ≠ 0 by omega); have hm : k.tmod n < 0 ∧ k.tmod n + n = k % n ∨ ¬ k.tmod n < 0 ∧ k.tmod n = k % n := by
   by_cases hc : 0 ≤ k ∨ n ∣ k
   ·rw [if_pos hc] at h2; omega
   ·rw [if_neg hc] at h2
    have : k % n ≠ 0 := fun e => hc (.inr (Int.dvd_of_emod_eq_zero e))
    omega
  have hz : ¬ n = 0 := by omega
  generalize k % n = q at *; clear h2; have hb : -9223372036854775808 ≤ k.tmod n ∧ k.tmod n ≤ 9223372036854775807 := by omega
  generalize hT : k.tmod n = t at *
  rcases hm with ⟨m1, m2⟩ | ⟨m1, m2⟩
  ·have M := mh m2
   clear m2; have mm : IntKind.i64.wrap (t + n) = t + n := IntWalk.i64_in _ ⟨by omega, by have := M.out; omega⟩
   go_enter Tryz.func20, Tryz.ntmps20
   go_wp2
   go_ret
   exact ⟨ret_int (by rw [← M.out]), rfl⟩
  ·subst m2
   go_enter Tryz.func20, Tryz.ntmps20
   go_wp2
   go_ret
   exact ⟨rfl, rfl⟩
structure But (t : Nat) (w w' : World) : Prop where
 os : w'.os = w.os
 tape : w'.tape = w.tape
 output : w'.output = w.output
 size : w.heap.size ≤ w'.heap.size
 block : ∀ k, k < w.heap.size → k ≠ t → w'.heap[k]? = w.heap[k]?
theorem But.refl (t : Nat) (w : World) : But t w w := ⟨rfl, rfl, rfl, Nat.le_refl _, fun _ _ _ => rfl⟩
theorem But.trans {t : Nat} {a b c : World} (h : But t a b) (k : But t b c) : But t a c :=
 ⟨k.os.trans h.os, k.tape.trans h.tape, k.output.trans h.output, Nat.le_trans h.size k.size, fun i hi hn => (k.block i (nll hi h.size) hn).trans (h.block i hi hn)⟩
theorem But.of_below {t : Nat} {a b : World} (h : Below a.heap.size a b) : But t a b := ⟨h.os, h.tape, h.output, h.size, fun i hi _ => h.block i hi⟩
theorem But.below {t B : Nat} {a b : World} (h : But t a b) (hB : B ≤ t) (hs : B ≤ a.heap.size) : Below B a b := ⟨h.os, h.tape, h.output, h.size, fun i hi => h.block i (by omega) (by omega)⟩
theorem But.cell {t : Nat} {a b : World} (h : But t a b) {p : Addr} (hp : p.block < a.heap.size) (hn : p.block ≠ t) : b.cell? p = a.cell? p := World.cell?_of_block (w := a) (h.block p.block hp hn)
theorem Ints.but {w w' : World} {t : Nat} {p : Option Addr} {l : List Int} (h : Ints w p l) (hb : But t w w') (hp : l = [] ∨ ∀ a, p = some a → a.block ≠ t) : Ints w' p l := by
 refine ⟨h.1, ?_⟩
 rcases h.2 with e | ⟨b, off, e, hl, hc⟩
 ·exact .inl e
 rcases hp with e0 | hp
 ·exact .inl e0
 ·exact .inr ⟨b, off, e, nll hl hb.size, fun j hj => (hb.cell (p := ⟨b, off + j, none⟩) hl (hp ⟨b, off, none⟩ e)).trans (hc j hj)⟩
structure TapeAt (w : World) (t : Nat) (l : List Int) (n : Nat) : Prop where
 row : ∃ p cap, w.cell? ⟨t, 0, none⟩ = some (.slice p l.length cap) ∧ Ints w p l ∧ (l = [] ∨ ∀ a, p = some a → a.block < t)
 at_ : w.cell? ⟨t, 1, none⟩ = some (I O (n : Int))
 fz : w.frozen? ⟨t, 1, none⟩ = false
 le : n ≤ l.length
 wf : ∀ x ∈ l, -9223372036854775808 ≤ x ∧ x ≤ 9223372036854775807
 lt : t < w.heap.size
 len : l.length ≤ 400
def gives (l : List Int) (at_ : Nat) (n : Int) : Int := if l.length ≤ at_ then 0 else mod (l.getD at_ 0) n
def taken (l : List Int) (at_ : Nat) : Nat := if l.length ≤ at_ then at_ else at_ + 1
theorem gives_bd (l : List Int) (a : Nat) {n : Int} (h : 1 ≤ n) : 0 ≤ gives l a n ∧ gives l a n < n := by
 unfold gives
 split
 ·omega
 ·exact mod_bd _ h
theorem TapeAt.belowB {w w' : World} {t B : Nat} {l : List Int} {n : Nat} (h : TapeAt w t l n) (hb : Below B w w') (hB : t < B) : TapeAt w' t l n := by
 obtain ⟨p, cap, h1, h2, h3⟩ := h.row; refine ⟨⟨p, cap, (hb.cell (p := ⟨t, 0, none⟩) hB).trans h1, ⟨h2.1, ?_⟩, h3⟩, (hb.cell (p := ⟨t, 1, none⟩) hB).trans h.at_, (hb.frozen (p := ⟨t, 1, none⟩) hB).trans h.fz, h.le, h.wf, nll h.lt hb.size, h.len⟩
 rcases h2.2 with e | ⟨b, off, e, hl, hc⟩
 ·exact .inl e
 rcases h3 with e0 | h3
 ·exact .inl e0
 ·have hbt : b < t := h3 ⟨b, off, none⟩ e
  exact .inr ⟨b, off, e, nll hl hb.size, fun j hj => (hb.cell (p := ⟨b, off + j, none⟩) (by show b < B; omega)).trans (hc j hj)⟩
theorem TapeAt.below {w w' : World} {t : Nat} {l : List Int} {n : Nat} (h : TapeAt w t l n) (hb : Below w.heap.size w w') : TapeAt w' t l n := h.belowB hb h.lt
theorem getD_bd {l : List Int} (h : ∀ x ∈ l, -9223372036854775808 ≤ x ∧ x ≤ 9223372036854775807) (k : Nat) : -9223372036854775808 ≤ l.getD k 0 ∧ l.getD k 0 ≤ 9223372036854775807 := by
 rw [List.getD_eq_getElem?_getD]
 rcases Nat.lt_or_ge k l.length with hi | hi
 ·rw [List.getElem?_eq_getElem hi]; exact h _ (List.getElem_mem hi)
 ·rw [List.getElem?_eq_none hi]; decide
theorem new_any (a : Option Addr) (len cap : Nat) (z : List Int) (w : World) (h : IsRow .i64 w a len cap z) :
  Calls Tryz.prog 16 #[.slice a len cap] w fun e w' => e = .returned (.pointer (some ⟨w.heap.size, 0, none⟩)) ∧ TapeAt w' w.heap.size ((z.take len).take 400) 0 ∧ Below w.heap.size w w' := by
 obtain ⟨hI, hL⟩ := h.ints; have hl := h.len; have hwf : ∀ x ∈ (z.take len).take 400, -9223372036854775808 ≤ x ∧ x ≤ 9223372036854775807 := fun x hx => by
  have := h.wf x (List.mem_of_mem_take (List.mem_of_mem_take hx))
  simpa [Lit.wf, IntKind.min, IntKind.max, IntKind.signed, IntKind.bits] using this
 have hcap : len ≤ cap := by rcases h with ⟨_, rfl, rfl, _⟩ | ⟨_, _, h1, _⟩ <;> omega
 have hm : len ≤ 9223372036854775807 := by have := hl.2; unfold maxLen at this; omega
 have hne : ∀ x, a = some x → x.block < w.heap.size ∨ len = 0 := fun x e => by
  by_cases h0 : len = 0
  ·exact .inr h0
  ·obtain ⟨b, off, y, e2, hb, _⟩ := h.get (i := 0) (by omega)
   rw [e] at e2
   cases e2
   exact .inl hb
 have hne2 : (z.take len).take 400 = [] ∨ ∀ x, a = some x → x.block < w.heap.size := by
  by_cases h0 : len = 0
  ·left; subst h0; simp
  ·right; intro x e; rcases hne x e with h | h <;> omega
 have hT : ((z.take len).take 400).length = min len 400 := by rw [List.length_take, hL]; omega
 have hI2 : Ints w a ((z.take len).take 400) := by
  refine ⟨by rw [hT]; unfold maxLen; omega, ?_⟩
  rcases hI.2 with e | ⟨b, off, e, hb, hc⟩
  ·left; rw [e]; simp
  ·exact .inr ⟨b, off, e, hb, fun j hj => by
    rw [hc j (by rw [hT] at hj; rw [hL]; omega)]; rw [hT] at hj; simp only [List.getD_eq_getElem?_getD, List.getElem?_take]
    rw [if_pos (show j < 400 by omega)]⟩
 have HW := mh hwf; have HI := mh hI2; have HN := mh hne2; generalize (z.take len).take 400 = l at *; clear hwf hI2 hne2 hne hI hL hl h; have HT := mh hT; clear hT
 go_enter Tryz.func16, Tryz.ntmps16
 go_wp2
 go_ret
 have e : (min (len : Int) 400).toNat = l.length := by rw [HT.out]; omega
 rw [e]; refine ⟨rfl, ⟨⟨a, cap, by go_simp, HI.out.below ((brf _ _).alloc mle _), HN.out⟩, by go_simp, by go_simp, Nat.zero_le _, HW.out, by simp, by rw [HT.out]; omega⟩, by go_grown⟩
theorem next_any (t : Nat) (l : List Int) (k : Nat) (n : Int) (w : World) (h : TapeAt w t l k) (hn : n ≤ 9223372036854775807) :
  Calls Tryz.prog 37 #[.pointer (some ⟨t, 0, none⟩), I O n] w fun e w' => e = .returned (I O (gives l k n)) ∧ TapeAt w' t l (taken l k) ∧ But t w w' := by
 obtain ⟨p, cap, h1, h2, h3⟩ := h.row; have h4 := h.at_; have h5 := h.fz; have h6 := h.len; have hH := mh h
 by_cases hk : l.length ≤ k
 ·have e1 : gives l k n = 0 := by unfold gives; rw [if_pos hk]
  have e2 : taken l k = k := by unfold taken; rw [if_pos hk]
  rw [e1, e2]; clear h h3 e1 e2; have h2' := mh h2; clear h2
  go_enter Tryz.func37, Tryz.ntmps37
  go_wp2_with fail
  go_quiet (fail)
  go_wp2
  go_ret
  exact ⟨rfl, hH.out.below (drewN_below _ _), But.of_below (drewN_below _ _)⟩
 ·have hkl : k < l.length := by omega
  obtain ⟨b, off, x, rfl, hb, hc, hx⟩ := h2.get hkl; have hbt : b ≠ t := by
   rcases h3 with e0 | h3
   ·subst e0; simp at hkl
   ·exact Nat.ne_of_lt (h3 _ rfl)
  have e1 : gives l k n = mod x n := by unfold gives; rw [if_neg hk, hx.out]
  have e2 : taken l k = k + 1 := by unfold taken; rw [if_neg hk]
  have hxb := getD_bd h.wf k; rw [hx.out] at hxb; have hmod := fun w => mod_any x n w hxb.1 hn
  rw [e1, e2]; have HM := mh hmod; have h2' := mh h2; have h3' := mh h3; clear h h2 e1 e2 h3 hmod; have hk0 : (0 : Int) ≤ (k : Int) := inn _; have hk1 : (k : Int) < (l.length : Int) := by omega
  have hz1 : (k : Int) + 1 - 1 = (k : Int) := by omega
  go_enter Tryz.func37, Tryz.ntmps37
  go_wp2_with fail
  go_quiet (fail)
  go_wp2_with fail
  have g1 : ((w.drewN nq).setCell ⟨t, 1, none⟩ (I O ((k : Int) + 1))).cell? ⟨t, 0, none⟩ = some (.slice (some ⟨b, off, none⟩) l.length cap) := by
   rw [World.cell?_setCell_other _ _ _ _ (by intro e; cases e)]; exact h1
  have g2 : ((w.drewN nq).setCell ⟨t, 1, none⟩ (I O ((k : Int) + 1))).cell? ⟨t, 1, none⟩ = some (I O ((k : Int) + 1)) := World.cell?_setCell_same _ _ _ (show (w.drewN nq).cell? _ = _ from h4); have g3 : ((w.drewN nq).setCell ⟨t, 1, none⟩ (I O ((k : Int) + 1))).cell? ⟨b, off + k, none⟩ = some (I O x) := by
   exact cell_other (show (w.drewN nq).cell? _ = _ from hc) (fun e => hbt e.symm)
  have g4 : ((w.drewN nq).setCell ⟨t, 1, none⟩ (I O ((k : Int) + 1))).frozen? ⟨t, 1, none⟩ = false := by rw [World.frozen?_setCell]; exact h5
  have g5 : But t w ((w.drewN nq).setCell ⟨t, 1, none⟩ (I O ((k : Int) + 1))) :=
   ⟨rfl, rfl, rfl, by simp [World.setCell, World.drewN], fun i _ hn => Below.heap_setCell (w.drewN nq) _ _ _ hn⟩
  have G5 := mh g5; clear g5; generalize (w.drewN nq).setCell ⟨t, 1, none⟩ (I O ((k : Int) + 1)) = W at *; clear h1 h4 hc h5
  go_quiet ((go_at_call 20; exact Calls.quiet_of_same (Calls.turn (HM.out _))))
  go_wp2
  go_ret
  refine ⟨rfl, ?_, G5.out.trans (But.of_below (drewN_below _ _))⟩
  have hbb : ∀ a, some (⟨b, off, none⟩ : Addr) = some a → a.block ≠ t := fun a e => by cases e; exact hbt
  have hb3 := h3'.out; exact ⟨⟨_, cap, g1, (h2'.out.but G5.out (.inr hbb)).below (drewN_below _ _), hb3⟩, g2, g4, by omega, hH.out.wf, nll hH.out.lt G5.out.size, h6⟩
theorem range_any (t : Nat) (l : List Int) (k : Nat) (low high : Int) (w : World) (h : TapeAt w t l k) (h0 : -1125899906842624 ≤ low) (h1 : low ≤ high) (h2 : high ≤ 1125899906842624) :
  Calls Tryz.prog 57 #[.pointer (some ⟨t, 0, none⟩), I O low, I O high] w fun e w' => e = .returned (I O (low + gives l k (high - low + 1))) ∧ TapeAt w' t l (taken l k) ∧ But t w w' := by
 have hn := next_any t l k (high - low + 1) w h (by omega); obtain ⟨g1, g2⟩ := gives_bd l k (n := high - low + 1) (by omega); have HN := mh hn; clear hn h; generalize gives l k (high - low + 1) = g at *
 go_enter Tryz.func57, Tryz.ntmps57
 go_wp2_with (first | (go_at_call 37; refine (HN.out).mono ?_; rintro e w1 ⟨rfl, ht, hb⟩))
 go_ret
 exact ⟨rfl, ht, hb⟩
/-! ### some numbers, one after the other -/
theorem one_any (t : Nat) (l : List Int) (k : Nat) (n : Int) (w : World) (h : TapeAt w t l k) (h1 : 1 ≤ n) (hn : n ≤ 9223372036854775807) :
  Calls Tryz.prog 56 #[.pointer (some ⟨t, 0, none⟩), I O n] w fun e w' => e = .returned (.bool (gives l k n == n - 1)) ∧ TapeAt w' t l (taken l k) ∧ But t w w' := by
 have hn1 := next_any t l k n w h hn; obtain ⟨g1, g2⟩ := gives_bd l k h1; have HN := mh hn1; clear hn1 h; generalize gives l k n = g at *
 go_enter Tryz.func56, Tryz.ntmps56
 go_wp2_with (first | (go_at_call 37; refine (HN.out).mono ?_; rintro e w1 ⟨rfl, ht, hb⟩))
 go_ret
 exact ⟨rfl, ht, hb⟩
theorem But.stp {t : Nat} {a b c : World} (h : But t a b) (hb : Below a.heap.size b c) : But t a c :=
 ⟨hb.os.trans h.os, hb.tape.trans h.tape, hb.output.trans h.output, Nat.le_trans h.size hb.size, fun i hi hn => (hb.block i hi).trans (h.block i hi hn)⟩
theorem But.stpB {t B : Nat} {a b c : World} (h : But t a b) (hb : Below B b c) (hB : a.heap.size ≤ B) : But t a c :=
 ⟨hb.os.trans h.os, hb.tape.trans h.tape, hb.output.trans h.output, Nat.le_trans h.size hb.size, fun k hk hne => (hb.block k (nll hk hB)).trans (h.block k hk hne)⟩
theorem But.nxt {t : Nat} {a b c : World} (h : But t a b) (hb : Below b.heap.size b c) : But t a c := h.stp (hb.mono h.size)
theorem But.drew {t : Nat} {a b : World} (h : But t a b) : But t a b.drew := h.stp ((brf _ _).drew)
theorem OwnR.but {α : Type} {S : Shape α} {w w' : World} {T : TypeId} {B t : Nat} {v : Value} {L : List α} (h : OwnR S w T B v L) (hb : But t w w') (hB : t < B) : OwnR S w' T B v L :=
 h.blocks fun g _ hg hl => hb.block g hl (by omega)
open As
/-! ### rows -/
structure RL where
 decl : Int
 sch : Int
 dp : Option Addr
 dn : Nat
 dc : Nat
 season : Int
 kind : Int
 area : Int
 border : Int
def lCells (r : RL) : List Value := [I O r.decl, I O r.sch, .slice r.dp r.dn r.dc, I O r.season, I O r.kind, I O r.area, I O r.border]
def SL : Shape RL := ⟨7, lCells, fun _ => rfl, by decide, fun a u hu => by
 simp only [lCells, List.mem_cons, List.not_mem_nil, or_false] at hu
 rcases hu with rfl | rfl | rfl | rfl | rfl | rfl | rfl <;> rfl⟩
structure RF where
 farm : Int
 day : Int
 lp : Option Addr
 ln : Nat
 lc : Nat
def fCells (r : RF) : List Value := [I O r.farm, I O r.day, .slice r.lp r.ln r.lc]
def SF : Shape RF := ⟨3, fCells, fun _ => rfl, by decide, fun a u hu => by
 simp only [fCells, List.mem_cons, List.not_mem_nil, or_false] at hu
 rcases hu with rfl | rfl | rfl <;> rfl⟩
def aCells (a : Awd) : List Value := [I O a.farm, I O a.scheme, I O a.decl, I O a.det, I O a.paid, I O a.rated, I O a.timely, I O a.capped, I O a.due]
def SA : Shape Awd := ⟨9, aCells, fun _ => rfl, by decide, fun a u hu => by
 simp only [aCells, List.mem_cons, List.not_mem_nil, or_false] at hu
 rcases hu with rfl | rfl | rfl | rfl | rfl | rfl | rfl | rfl | rfl <;> rfl⟩
def rCells (a : Rsn) : List Value := [I O a.line, I O a.scheme, I O a.kind]
def SRn : Shape Rsn := ⟨3, rCells, fun _ => rfl, by decide, fun a u hu => by
 simp only [rCells, List.mem_cons, List.not_mem_nil, or_false] at hu
 rcases hu with rfl | rfl | rfl <;> rfl⟩
theorem info_line : (Tryz.prog.info? 68).map (fun i => (i.zero, i.size, i.bytes)) = some (some (.agg #[I O 0, I O 0, .slice none 0 0, I O 0, I O 0, I O 0, I O 0]), 7, 72) := by kernel_rfl
theorem el_line : Elem SL Tryz.prog 68 45 72 := by
 obtain ⟨i0, h1, h2, h3, h4⟩ := info_parts info_line; exact ⟨⟨i0, _, h1, h2, h3, h4, rfl⟩, Tryz.underlying45⟩
theorem info_farm : (Tryz.prog.info? 47).map (fun i => (i.zero, i.size, i.bytes)) = some (some (.agg #[I O 0, I O 0, .slice none 0 0]), 3, 40) := by kernel_rfl
theorem el_farm : Elem SF Tryz.prog 47 30 40 := by
 obtain ⟨i0, h1, h2, h3, h4⟩ := info_parts info_farm; exact ⟨⟨i0, _, h1, h2, h3, h4, rfl⟩, Tryz.underlying30⟩
theorem info_awd : (Tryz.prog.info? 60).map (fun i => (i.zero, i.size, i.bytes)) = some (some (.agg #[I O 0, I O 0, I O 0, I O 0, I O 0, I O 0, I O 0, I O 0, I O 0]), 9, 72) := by kernel_rfl
theorem el_awd : Elem SA Tryz.prog 60 48 72 := by
 obtain ⟨i0, h1, h2, h3, h4⟩ := info_parts info_awd; exact ⟨⟨i0, _, h1, h2, h3, h4, rfl⟩, Tryz.underlying48⟩
theorem info_rsn : (Tryz.prog.info? 70).map (fun i => (i.zero, i.size, i.bytes)) = some (some (.agg #[I O 0, I O 0, I O 0]), 3, 24) := by kernel_rfl
theorem el_rsn : Elem SRn Tryz.prog 70 54 24 := by
 obtain ⟨i0, h1, h2, h3, h4⟩ := info_parts info_rsn; exact ⟨⟨i0, _, h1, h2, h3, h4, rfl⟩, Tryz.underlying54⟩
/-! ### lines -/
structure LV (Q : Nat → Prop) (w : World) (r : RL) (x : LineF) : Prop where
 decl : r.decl = x.decl
 sch : r.sch = x.sch
 due : Ints w r.dp x.due
 dn : r.dn = x.due.length
 dc : r.dn ≤ r.dc
 dz : r.dp = none → r.dc = 0
 dq : ∀ a, r.dp = some a → x.due = [] ∨ Q a.block
 season : r.season = x.season
 kind : r.kind = x.kind
 area : r.area = x.area
 border : r.border = x.border
theorem Ints.blocks {w w' : World} {p : Option Addr} {l : List Int} (h : Ints w p l) (hs : w.heap.size ≤ w'.heap.size) (hp : ∀ a, p = some a → l = [] ∨ w'.heap[a.block]? = w.heap[a.block]?) : Ints w' p l := by
 refine ⟨h.1, ?_⟩
 rcases h.2 with e | ⟨b, off, e, hl, hc⟩
 ·exact .inl e
 rcases hp _ e with e0 | hp
 ·exact .inl e0
 ·exact .inr ⟨b, off, e, nll hl hs, fun j hj => (World.cell?_of_block (w := w) (a := ⟨b, off + j, none⟩) hp).trans (hc j hj)⟩
theorem Ints.lt {w : World} {p : Option Addr} {l : List Int} (h : Ints w p l) (h0 : l ≠ []) {a : Addr} (e : p = some a) : a.block < w.heap.size := by
 rcases h.2 with e0 | ⟨b, off, e1, hl, _⟩
 ·exact absurd e0 h0
 ·rw [e] at e1; cases e1; exact hl
theorem LV.change {Q Q' : Nat → Prop} {w w' : World} {r : RL} {x : LineF} (h : LV Q w r x) (hs : w.heap.size ≤ w'.heap.size) (hb : ∀ b, Q b → b < w.heap.size → w'.heap[b]? = w.heap[b]? ∧ Q' b) : LV Q' w' r x := by
 have key : ∀ a, r.dp = some a → x.due = [] ∨ (w'.heap[a.block]? = w.heap[a.block]? ∧ Q' a.block) := fun a e => by
  rcases h.dq a e with h1 | h1
  ·exact .inl h1
  ·by_cases h0 : x.due = []
   ·exact .inl h0
   ·exact .inr (hb _ h1 (h.due.lt h0 e))
 exact ⟨h.decl, h.sch, h.due.blocks hs fun a e => (key a e).imp id And.left, h.dn, h.dc, h.dz, fun a e => (key a e).imp id And.right, h.season, h.kind, h.area, h.border⟩
theorem LV.below {Q : Nat → Prop} {w w' : World} {r : RL} {x : LineF} (h : LV Q w r x) (hb : Below w.heap.size w w') : LV Q w' r x := h.change hb.size fun b q hl => ⟨hb.block b hl, q⟩
structure LsAt (Q : Nat → Prop) (w : World) (p : Option Addr) (K : List LineF) : Prop where
 ex : ∃ R : List RL, R.length = K.length ∧ Recs SL w p R ∧ ∀ k (h : k < R.length) (h' : k < K.length), LV Q w R[k] K[k]
 q : ∀ a, p = some a → K = [] ∨ Q a.block
theorem LsAt.nil (Q : Nat → Prop) (w : World) (p : Option Addr) : LsAt Q w p [] := ⟨⟨[], rfl, Recs.nil _ _, fun k h => by simp at h⟩, fun _ _ => .inl rfl⟩
theorem LsAt.change {Q Q' : Nat → Prop} {w w' : World} {p : Option Addr} {K : List LineF} (h : LsAt Q w p K) (hs : w.heap.size ≤ w'.heap.size) (hb : ∀ b, Q b → b < w.heap.size → w'.heap[b]? = w.heap[b]? ∧ Q' b) : LsAt Q' w' p K := by
 obtain ⟨⟨R, h1, h2, h3⟩, h4⟩ := h; have hR : K = [] ↔ R = [] := by rw [← List.length_eq_zero_iff, ← List.length_eq_zero_iff, h1]
 have key : ∀ a, p = some a → K = [] ∨ (w'.heap[a.block]? = w.heap[a.block]? ∧ Q' a.block) := fun a e => by
  rcases h4 a e with h | h
  ·exact .inl h
  ·by_cases h0 : K = []
   ·exact .inl h0
   ·exact .inr (hb _ h (h2.lt (fun e => h0 (hR.2 e)) e))
 exact ⟨⟨R, h1, h2.blocks hs fun a e => (key a e).imp hR.1 And.left, fun k a b => (h3 k a b).change hs hb⟩, fun a e => (key a e).imp id And.right⟩
theorem LsAt.below {Q : Nat → Prop} {w w' : World} {p : Option Addr} {K : List LineF} (h : LsAt Q w p K) (hb : Below w.heap.size w w') : LsAt Q w' p K := h.change hb.size fun b q hl => ⟨hb.block b hl, q⟩
theorem LsAt.len {Q : Nat → Prop} {w : World} {p : Option Addr} {K : List LineF} (h : LsAt Q w p K) : K.length ≤ 9223372036854775807 := by
 obtain ⟨⟨R, h1, h2, -⟩, -⟩ := h; rw [← h1]; exact h2.len
structure LCells (w : World) (b o : Nat) (r : RL) : Prop where
 c0 : w.cell? ⟨b, o, none⟩ = some (I O r.decl)
 c1 : w.cell? ⟨b, o + 1, none⟩ = some (I O r.sch)
 c2 : w.cell? ⟨b, o + 2, none⟩ = some (.slice r.dp r.dn r.dc)
 c3 : w.cell? ⟨b, o + 3, none⟩ = some (I O r.season)
 c4 : w.cell? ⟨b, o + 4, none⟩ = some (I O r.kind)
 c5 : w.cell? ⟨b, o + 5, none⟩ = some (I O r.area)
 c6 : w.cell? ⟨b, o + 6, none⟩ = some (I O r.border)
theorem LCells.blk {w w' : World} {b o : Nat} {r : RL} (h : LCells w b o r) (e : w'.heap[b]? = w.heap[b]?) : LCells w' b o r := by
 have c : ∀ i, w'.cell? ⟨b, i, none⟩ = w.cell? ⟨b, i, none⟩ := fun i => World.cell?_of_block (w := w) (a := ⟨b, i, none⟩) e
 exact ⟨(c _).trans h.c0, (c _).trans h.c1, (c _).trans h.c2, (c _).trans h.c3, (c _).trans h.c4, (c _).trans h.c5, (c _).trans h.c6⟩
theorem LCells.below {w w' : World} {b o B : Nat} {r : RL} (h : LCells w b o r) (hb : Below B w w') (hB : b < B) : LCells w' b o r := h.blk (hb.block b hB)
theorem LsAt.at {Q : Nat → Prop} {w : World} {p : Option Addr} {K : List LineF} (h : LsAt Q w p K) {k : Nat} (hk : k < K.length) :
  ∃ b off r, p = some ⟨b, off, none⟩ ∧ b < w.heap.size ∧ LCells w b (off + k * 7) r ∧ LV Q w r K[k] := by
 obtain ⟨⟨R, h1, h2, h3⟩, -⟩ := h; have hk' : k < R.length := by omega
 obtain ⟨b, off, e, hl, hc⟩ := h2.at hk'; exact ⟨b, off, R[k], e, hl, ⟨hc 0 _ rfl, hc 1 _ rfl, hc 2 _ rfl, hc 3 _ rfl, hc 4 _ rfl, hc 5 _ rfl, hc 6 _ rfl⟩, h3 k hk' hk⟩
/-! ### farms -/
structure FV (Q : Nat → Prop) (w : World) (r : RF) (f : FarmF) : Prop where
 farm : r.farm = f.farm
 day : r.day = f.day
 lines : LsAt Q w r.lp f.lines
 ln : r.ln = f.lines.length
 lc : r.ln ≤ r.lc
 lz : r.lp = none → r.lc = 0
theorem FV.change {Q Q' : Nat → Prop} {w w' : World} {r : RF} {f : FarmF} (h : FV Q w r f) (hs : w.heap.size ≤ w'.heap.size) (hb : ∀ b, Q b → b < w.heap.size → w'.heap[b]? = w.heap[b]? ∧ Q' b) : FV Q' w' r f :=
 ⟨h.farm, h.day, h.lines.change hs hb, h.ln, h.lc, h.lz⟩
theorem FV.below {Q : Nat → Prop} {w w' : World} {r : RF} {f : FarmF} (h : FV Q w r f) (hb : Below w.heap.size w w') : FV Q w' r f := h.change hb.size fun b q hl => ⟨hb.block b hl, q⟩
structure FsAt (Q : Nat → Prop) (w : World) (p : Option Addr) (F : List FarmF) : Prop where
 ex : ∃ R : List RF, R.length = F.length ∧ Recs SF w p R ∧ ∀ k (h : k < R.length) (h' : k < F.length), FV Q w R[k] F[k]
 q : ∀ a, p = some a → F = [] ∨ Q a.block
theorem FsAt.change {Q Q' : Nat → Prop} {w w' : World} {p : Option Addr} {F : List FarmF} (h : FsAt Q w p F) (hs : w.heap.size ≤ w'.heap.size) (hb : ∀ b, Q b → b < w.heap.size → w'.heap[b]? = w.heap[b]? ∧ Q' b) : FsAt Q' w' p F := by
 obtain ⟨⟨R, h1, h2, h3⟩, h4⟩ := h; have hR : F = [] ↔ R = [] := by rw [← List.length_eq_zero_iff, ← List.length_eq_zero_iff, h1]
 have key : ∀ a, p = some a → F = [] ∨ (w'.heap[a.block]? = w.heap[a.block]? ∧ Q' a.block) := fun a e => by
  rcases h4 a e with h | h
  ·exact .inl h
  ·by_cases h0 : F = []
   ·exact .inl h0
   ·exact .inr (hb _ h (h2.lt (fun e => h0 (hR.2 e)) e))
 exact ⟨⟨R, h1, h2.blocks hs fun a e => (key a e).imp hR.1 And.left, fun k a b => (h3 k a b).change hs hb⟩, fun a e => (key a e).imp id And.right⟩
theorem FsAt.below {Q : Nat → Prop} {w w' : World} {p : Option Addr} {F : List FarmF} (h : FsAt Q w p F) (hb : Below w.heap.size w w') : FsAt Q w' p F := h.change hb.size fun b q hl => ⟨hb.block b hl, q⟩
theorem FsAt.len {Q : Nat → Prop} {w : World} {p : Option Addr} {F : List FarmF} (h : FsAt Q w p F) : F.length ≤ 9223372036854775807 := by
 obtain ⟨⟨R, h1, h2, -⟩, -⟩ := h; rw [← h1]; exact h2.len
structure FCells (w : World) (b o : Nat) (r : RF) : Prop where
 c0 : w.cell? ⟨b, o, none⟩ = some (I O r.farm)
 c1 : w.cell? ⟨b, o + 1, none⟩ = some (I O r.day)
 c2 : w.cell? ⟨b, o + 2, none⟩ = some (.slice r.lp r.ln r.lc)
theorem FsAt.at {Q : Nat → Prop} {w : World} {p : Option Addr} {F : List FarmF} (h : FsAt Q w p F) {k : Nat} (hk : k < F.length) :
  ∃ b off r, p = some ⟨b, off, none⟩ ∧ b < w.heap.size ∧ FCells w b (off + k * 3) r ∧ FV Q w r F[k] := by
 obtain ⟨⟨R, h1, h2, h3⟩, -⟩ := h; have hk' : k < R.length := by omega
 obtain ⟨b, off, e, hl, hc⟩ := h2.at hk'; exact ⟨b, off, R[k], e, hl, ⟨hc 0 _ rfl, hc 1 _ rfl, hc 2 _ rfl⟩, h3 k hk' hk⟩
/-! ### the law of a year, as a value of ten cells -/
structure RY where
 sp : Option Addr
 sn : Nat
 sc : Nat
 tp : Option Addr
 tn : Nat
 tc : Nat
 due : Int
 last : Int
 mille : Int
 gp : Option Addr
 gn : Nat
 gc : Nat
 cap : Int
 env : Int
 unit : Int
 width : Int
def yCells (r : RY) : List Value := [.slice r.sp r.sn r.sc, .slice r.tp r.tn r.tc, I O r.due, I O r.last, I O r.mille, .slice r.gp r.gn r.gc, I O r.cap, I O r.env, I O r.unit, I O r.width]
structure YV (Q : Nat → Prop) (w : World) (d : Nat) (r : RY) (l : YLaw) : Prop where
 sch : SsAt Q w d r.sp l.sch
 sn : r.sn = l.sch.length
 sc : r.sn ≤ r.sc
 steps : Pairs w r.tp l.steps
 tn : r.tn = l.steps.length
 tq : ∀ a, r.tp = some a → l.steps = [] ∨ Q a.block
 due : r.due = l.late.due
 last : r.last = l.late.last
 mille : r.mille = l.late.mille
 deg : Pairs w r.gp l.deg
 gn : r.gn = l.deg.length
 gq : ∀ a, r.gp = some a → l.deg = [] ∨ Q a.block
 cap : r.cap = l.cap
 env : r.env = l.env
 unit : r.unit = l.unit
 width : r.width = l.width
 /-- what any program's reading of names and terms asks -/
 small : ∀ s ∈ l.sch, s.nm.size ≤ 9223372036854775807
 terms : ∀ s ∈ l.sch, Te.count s.cond ≤ 1099511627776
theorem Pairs.blocks {w w' : World} {p : Option Addr} {D : List (Int × Int)} (h : Pairs w p D) (hs : w.heap.size ≤ w'.heap.size) (hp : ∀ a, p = some a → D = [] ∨ w'.heap[a.block]? = w.heap[a.block]?) : Pairs w' p D := by
 refine ⟨h.1, ?_⟩
 rcases h.2 with e | ⟨b, off, e, hl, hc⟩
 ·exact .inl e
 rcases hp _ e with e0 | hp
 ·exact .inl e0
 ·refine .inr ⟨b, off, e, nll hl hs, fun j hj => ?_⟩
  have c : ∀ i, w'.cell? ⟨b, i, none⟩ = w.cell? ⟨b, i, none⟩ := fun i => World.cell?_of_block (w := w) (a := ⟨b, i, none⟩) hp
  simp only [c]; exact hc j hj
theorem Pairs.lt {w : World} {p : Option Addr} {D : List (Int × Int)} (h : Pairs w p D) (h0 : D ≠ []) {a : Addr} (e : p = some a) : a.block < w.heap.size := by
 rcases h.2 with e0 | ⟨b, off, e1, hl, _⟩
 ·exact absurd e0 h0
 ·rw [e] at e1; cases e1; exact hl
theorem YV.change {Q Q' : Nat → Prop} {w w' : World} {d : Nat} {r : RY} {l : YLaw} (h : YV Q w d r l) (hs : w.heap.size ≤ w'.heap.size) (hb : ∀ b, Q b → b < w.heap.size → w'.heap[b]? = w.heap[b]? ∧ Q' b) : YV Q' w' d r l := by
 have key : ∀ {p : Option Addr} {D : List (Int × Int)}, Pairs w p D → (∀ a, p = some a → D = [] ∨ Q a.block) → ∀ a, p = some a → D = [] ∨ (w'.heap[a.block]? = w.heap[a.block]? ∧ Q' a.block) := fun hp hq a e => by
  rcases hq a e with h1 | h1
  ·exact .inl h1
  ·rename_i D
   by_cases h0 : D = []
   ·exact .inl h0
   ·exact .inr (hb _ h1 (hp.lt h0 e))
 have k1 := key h.steps h.tq; have k2 := key h.deg h.gq; exact ⟨h.sch.change hs hb, h.sn, h.sc, h.steps.blocks hs fun a e => (k1 a e).imp id And.left, h.tn, fun a e => (k1 a e).imp id And.right, h.due, h.last, h.mille, h.deg.blocks hs fun a e => (k2 a e).imp id And.left, h.gn, fun a e => (k2 a e).imp id And.right, h.cap, h.env, h.unit, h.width, h.small, h.terms⟩
theorem YV.below {Q : Nat → Prop} {w w' : World} {d : Nat} {r : RY} {l : YLaw} (h : YV Q w d r l) (hb : Below w.heap.size w w') : YV Q w' d r l := h.change hb.size fun b q hl => ⟨hb.block b hl, q⟩
structure YCells (w : World) (b o : Nat) (r : RY) : Prop where
 c0 : w.cell? ⟨b, o, none⟩ = some (.slice r.sp r.sn r.sc)
 c1 : w.cell? ⟨b, o + 1, none⟩ = some (.slice r.tp r.tn r.tc)
 c2 : w.cell? ⟨b, o + 2, none⟩ = some (I O r.due)
 c3 : w.cell? ⟨b, o + 3, none⟩ = some (I O r.last)
 c4 : w.cell? ⟨b, o + 4, none⟩ = some (I O r.mille)
 c5 : w.cell? ⟨b, o + 5, none⟩ = some (.slice r.gp r.gn r.gc)
 c6 : w.cell? ⟨b, o + 6, none⟩ = some (I O r.cap)
 c7 : w.cell? ⟨b, o + 7, none⟩ = some (I O r.env)
 c8 : w.cell? ⟨b, o + 8, none⟩ = some (I O r.unit)
 c9 : w.cell? ⟨b, o + 9, none⟩ = some (I O r.width)
theorem YCells.blk {w w' : World} {b o : Nat} {r : RY} (h : YCells w b o r) (e : w'.heap[b]? = w.heap[b]?) : YCells w' b o r := by
 have c : ∀ i, w'.cell? ⟨b, i, none⟩ = w.cell? ⟨b, i, none⟩ := fun i => World.cell?_of_block (w := w) (a := ⟨b, i, none⟩) e
 exact ⟨(c _).trans h.c0, (c _).trans h.c1, (c _).trans h.c2, (c _).trans h.c3, (c _).trans h.c4, (c _).trans h.c5, (c _).trans h.c6, (c _).trans h.c7, (c _).trans h.c8, (c _).trans h.c9⟩
theorem YCells.below {w w' : World} {b o B : Nat} {r : RY} (h : YCells w b o r) (hb : Below B w w') (hB : b < B) : YCells w' b o r := h.blk (hb.block b hB)
theorem YCells.box (w : World) (r : RY) (T : TypeId) : YCells (w.alloc (.cells (yCells r).toArray T)) w.heap.size 0 r :=
 ⟨cwn _ _ _ 0, cwn _ _ _ 1, cwn _ _ _ 2, cwn _ _ _ 3, cwn _ _ _ 4, cwn _ _ _ 5, cwn _ _ _ 6, cwn _ _ _ 7, cwn _ _ _ 8, cwn _ _ _ 9⟩
/-! ### rows of awards and reasons that are only read -/
structure ACells (w : World) (b o : Nat) (a : Awd) : Prop where
 c0 : w.cell? ⟨b, o, none⟩ = some (I O a.farm)
 c1 : w.cell? ⟨b, o + 1, none⟩ = some (I O a.scheme)
 c2 : w.cell? ⟨b, o + 2, none⟩ = some (I O a.decl)
 c3 : w.cell? ⟨b, o + 3, none⟩ = some (I O a.det)
 c4 : w.cell? ⟨b, o + 4, none⟩ = some (I O a.paid)
 c5 : w.cell? ⟨b, o + 5, none⟩ = some (I O a.rated)
 c6 : w.cell? ⟨b, o + 6, none⟩ = some (I O a.timely)
 c7 : w.cell? ⟨b, o + 7, none⟩ = some (I O a.capped)
 c8 : w.cell? ⟨b, o + 8, none⟩ = some (I O a.due)
theorem SA_at {w : World} {p : Option Addr} {L : List Awd} (h : Recs SA w p L) {k : Nat} (hk : k < L.length) :
  ∃ b off, p = some ⟨b, off, none⟩ ∧ b < w.heap.size ∧ ACells w b (off + k * 9) L[k] := by
 obtain ⟨b, off, e, hl, hc⟩ := h.at hk; exact ⟨b, off, e, hl, ⟨hc 0 _ rfl, hc 1 _ rfl, hc 2 _ rfl, hc 3 _ rfl, hc 4 _ rfl, hc 5 _ rfl, hc 6 _ rfl, hc 7 _ rfl, hc 8 _ rfl⟩⟩
def BlockAt (w : World) (T : TypeId) (b : Nat) (cur : Array Value) : Prop := w.heap[b]? = some (.cells cur T (0, 0))
variable {α : Type} {S : Shape α}
theorem OwnR.of_block {w : World} {T : TypeId} {B g cap : Nat} {cur : Array Value} {L : List α} (hb : BlockAt w T g cur) (hB : B ≤ g) (hl : L.length ≤ cap) (hm : cap ≤ maxLen) (hs : cur.size = cap * S.k) (ht : cur.toList.take (L.length * S.k) = S.flat L) : OwnR S w T B (.slice (some ⟨g, 0, none⟩) L.length cap) L :=
 ⟨S.flat_len L, .inr ⟨g, cap, cur, rfl, hB, hb, hl, hm, hs, ht⟩⟩
end Go.Proofs.YtmlfcpglhipjgaaGreat
