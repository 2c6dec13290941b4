/-
  MERGED (mergek.py): the texts T16, T17, T20.
-/
import Derived.Test.YtflcdkibjakciaaGreatDoorM23
import Derived.ChangeKeysEq
import Derived.Test.YtflcdkibjakciaaGreatDoorM8

namespace Go.Proofs.YtflcdkibjakciaaGreatDoor
open Go.RowKit Te

/-- The slice (p, length, c) lists words. -/
structure WSl (w : World) (p : Option Addr) (c : Nat) (ws : List ByteArray) : Prop where
  recs : Recs SB w p ws
  le : ws.length ≤ c
  nn : p = none → c = 0

theorem WSl.below {w w' : World} {p : Option Addr} {c : Nat} {ws : List ByteArray} (h : WSl w p c ws) (hb : Below w.heap.size w w') : WSl w' p c ws := ⟨h.recs.below hb, h.le, h.nn⟩

theorem under_strs : Tryz.prog.underlying 56 = some (.slice (Tryz.prog.elem 56)) := by kernel_rfl
theorem cells_str : Tryz.prog.cellsOf 9 = 1 := by kernel_rfl
theorem size_str : Tryz.prog.elem 56 = 9 := by kernel_rfl

/-- The first word, and the slice behind it. -/
theorem WSl.cons {w : World} {p : Option Addr} {c : Nat} {x : ByteArray} {r : List ByteArray} (h : WSl w p c (x :: r)) :
    ∃ b off q c1, p = some ⟨b, off, none⟩ ∧ b < w.heap.size ∧ w.cell? ⟨b, off, none⟩ = some (.string x) ∧ r.length + 1 ≤ c ∧ WSl w q c1 r ∧ (∀ a, q = some a → a.block = b) ∧
      ∀ W, (Instr.slice 56 (.slice (some ⟨b, off, none⟩) (r.length + 1) c) (some (.int .i64 1)) none none).run Tryz.prog W = .ok (.slice q r.length c1) W := by
  obtain ⟨b, off, rfl, hb, hc⟩ := h.recs.at (k := 0) (by simp)
  have hd := h.recs.drop 1
  have hle := h.le
  rw [List.length_cons] at hle
  have hcell : w.cell? ⟨b, off, none⟩ = some (.string x) := by
    have := hc 0 (.string x) rfl
    rw [Nat.zero_mul, Nat.add_zero] at this
    exact this
  have hrun : ∀ W, (Instr.slice 56 (.slice (some ⟨b, off, none⟩) (r.length + 1) c) (some (.int .i64 1)) none none).run Tryz.prog W = .ok (sliced (some ⟨b, off, none⟩) 1 (r.length + 1) c 1) W := fun W => by
    have hs : (sizeOf (Tryz.prog.elem 56)).run Tryz.prog W = .ok 1 W := by
      obtain ⟨i0, _, h1, _⟩ := el_str.ex
      rw [size_str, run_sizeOf W h1, cells_str]
    rw [run_slice_l (P := Tryz.prog) W 56 (some ⟨b, off, none⟩) (r.length + 1) c under_strs .i64 1 (by omega) (by omega), hs]
    rfl
  by_cases hc1 : c = 1
  · subst hc1
    have hr : r = [] := List.length_eq_zero_iff.1 (by omega)
    subst hr
    exact ⟨b, off, some ⟨b, off, none⟩, 0, rfl, hb, hcell, hle, ⟨Recs.nil _ _, by simp, (fun e => by cases e)⟩, (fun a e => by cases e; rfl), fun W => by rw [hrun W]; rfl⟩
  · refine ⟨b, off, some ⟨b, off + 1, none⟩, c - 1, rfl, hb, hcell, hle, ⟨hd, by omega, (fun e => by cases e)⟩, (fun a e => by cases e; rfl), fun W => ?_⟩
    rw [hrun W]
    unfold sliced
    rw [if_neg hc1]
    rfl

theorem WSl.chg {B : Nat} {w w' : World} {p : Option Addr} {c : Nat} {ws : List ByteArray} (h : WSl w p c ws) (hp : ∀ a, p = some a → ws = [] ∨ a.block < B) (hb : Below B w w') : WSl w' p c ws := by
  refine ⟨h.recs.blocks hb.size fun a e => ?_, h.le, h.nn⟩
  rcases hp a e with h | h
  · exact .inl h
  · exact .inr (hb.block _ h)

/-- The same of words that are some. -/
theorem WSl.some {w : World} {p : Option Addr} {c : Nat} {ws : List ByteArray} (h : WSl w p c ws) (h0 : ws ≠ []) :
    ∃ b off q c1, p = some ⟨b, off, none⟩ ∧ b < w.heap.size ∧ w.cell? ⟨b, off, none⟩ = some (.string (hdW ws)) ∧ ws.length ≤ c ∧ WSl w q c1 ws.tail ∧ (∀ a, q = some a → a.block = b) ∧
      ∀ W, (Instr.slice 56 (.slice (some ⟨b, off, none⟩) ws.length c) (some (.int .i64 1)) none none).run Tryz.prog W = .ok (.slice q ws.tail.length c1) W := by
  cases ws with
  | nil => exact absurd rfl h0
  | cons x r =>
    obtain ⟨b, off, q, c1, h1, h2, h3, h4, h5, h6, h7⟩ := h.cons
    exact ⟨b, off, q, c1, h1, h2, h3, h4, h5, h6, h7⟩

end Go.Proofs.YtflcdkibjakciaaGreatDoor

namespace Go.Proofs.YtflcdkibjakciaaGreatDoor
open Go.RowKit Te

theorem unm_letter (s : List UInt8) : letter s = match Cr.unm s with | some k => if single (k : Int) = true then some (k : Int) else none | none => none := by
  have h1 : ∀ k, k < 32 → single ((k : Nat) : Int) = true → letter (Cr.mword k) = some (k : Int) := fun k _ h => letter_mword h
  cases e : Cr.unm s with
  | some k =>
    obtain ⟨hk, hs⟩ := Cr.unm_some e
    simp only
    by_cases h : single (k : Int) = true
    · rw [if_pos h, ← hs, h1 k hk h]
    · rw [if_neg h]
      have h2 : ∀ k, k < 32 → ¬ single ((k : Nat) : Int) = true → letter (Cr.mword k) = none := by decide +kernel
      rw [← hs]
      exact h2 k hk h
  | none =>
    simp only
    unfold letter
    split
    · next c =>
      split
      · rfl
      · next hc =>
        exfalso
        have : Cr.mword (Cr.markOf c) = [c] := by
          unfold Cr.markOf at hc ⊢
          split
          · next h => subst h; decide +kernel
          split
          · next h => subst h; decide +kernel
          split
          · next h => subst h; decide +kernel
          split
          · next h => subst h; decide +kernel
          split
          · next h => subst h; decide +kernel
          · simp_all
        have h3 := Cr.unm_mword (Cr.markOf_lt c)
        rw [this, e] at h3
        cases h3
    · rfl

def LetG (s : List UInt8) (w : World) (e : Ending) (w' : World) : Prop := ∃ v : Int, e = .returned (.tuple #[.int .i64 v, .bool (letter s).isSome]) ∧ (∀ m, letter s = some m → v = m) ∧ Below w.heap.size w w'

set_option maxHeartbeats 2000000 in
theorem refletter_any (s : ByteArray) (w : World) : Calls Tryz.prog 123 #[.string s] w (LetG s.data.toList w) := by
  have UM := Lib.hid (unmarks_any s w)
  have HL := Lib.hid (unm_letter s.data.toList)
  have SN := Lib.hid (fun x W => refsingle_any x W)
  unfold UnmGive at UM
  cases e : Cr.unm s.data.toList with
  | none =>
    have UM := Lib.hid (show Calls Tryz.prog 144 #[.string s] w (fun e w' => e = .returned (.tuple #[.int .i64 0, .bool false]) ∧ Below w.heap.size w w') by
      have h := UM.out
      unfold unmV at h
      rw [e] at h
      exact h)
    have HN := Lib.hid (show letter s.data.toList = none by rw [HL.out, e])
    clear e HL
    go_enter Tryz.func123, Tryz.ntmps123
    go_wp2_with (first | (go_at_call 144; (with_reducible refine Calls.mono UM.out ?_); rintro e w1 ⟨rfl, hb1⟩))
    go_ret2
    exact ⟨0, by rw [HN.out]; rfl, (fun m h => by rw [HN.out] at h; cases h), hb1⟩
  | some k =>
    have UM := Lib.hid (show Calls Tryz.prog 144 #[.string s] w (fun e w' => e = .returned (.tuple #[.int .i64 (k : Int), .bool true]) ∧ Below w.heap.size w w') by
      have h := UM.out
      unfold unmV at h
      rw [e] at h
      exact h)
    have HN := Lib.hid (show letter s.data.toList = if single (k : Int) = true then some (k : Int) else none by rw [HL.out, e])
    clear e HL
    obtain ⟨K, eK⟩ : ∃ K : Int, (k : Int) = K := ⟨_, rfl⟩
    rw [eK] at UM HN
    have SN1 := Lib.hid (SN.out K)
    obtain ⟨b, eb⟩ : ∃ b, single K = b := ⟨_, rfl⟩
    rw [eb] at SN1 HN
    clear eb eK
    go_enter Tryz.func123, Tryz.ntmps123
    go_wp2_with (first | (go_at_call 144; (with_reducible refine Calls.mono UM.out ?_); rintro e w1 ⟨rfl, hb1⟩) | (go_at_call 143; (with_reducible refine Calls.mono (SN1.out _) ?_); rintro e w2 ⟨rfl, rfl⟩))
    go_ret2
    refine ⟨K, ?_, (fun m h => ?_), hb1⟩
    · rw [HN.out]; cases b <;> rfl
    · rw [HN.out] at h; cases b <;> simp at h; exact h

/-! ### the block of a term -/
structure TB (b : Nat) (W : World) (x0 x1 x2 x3 : Value) : Prop where
  c0 : W.cell? ⟨b, 0, none⟩ = some x0
  c1 : W.cell? ⟨b, 1, none⟩ = some x1
  c2 : W.cell? ⟨b, 2, none⟩ = some x2
  c3 : W.cell? ⟨b, 3, none⟩ = some x3
  f0 : W.frozen? ⟨b, 0, none⟩ = false
  f1 : W.frozen? ⟨b, 1, none⟩ = false
  f2 : W.frozen? ⟨b, 2, none⟩ = false
  f3 : W.frozen? ⟨b, 3, none⟩ = false
  lt : b < W.heap.size

theorem Res4.tb {b : Nat} {W : World} (h : Res4 b W) : TB b W (.int .i64 0) (.int .i64 0) (.int .i64 0) (.slice none 0 0) := ⟨h.c0, h.c1, h.c2, h.c3, h.f0, h.f1, h.f2, h.f3, h.lt⟩

theorem TB.blk {b : Nat} {W W' : World} {x0 x1 x2 x3 : Value} (h : TB b W x0 x1 x2 x3) (hs : W.heap.size ≤ W'.heap.size) (e : W'.heap[b]? = W.heap[b]?) : TB b W' x0 x1 x2 x3 := by
  have c : ∀ i, W'.cell? ⟨b, i, none⟩ = W.cell? ⟨b, i, none⟩ := fun i => World.cell?_of_block (w := W) e
  have f : ∀ i, W'.frozen? ⟨b, i, none⟩ = W.frozen? ⟨b, i, none⟩ := fun i => by simp only [World.frozen?, e]
  exact ⟨(c 0).trans h.c0, (c 1).trans h.c1, (c 2).trans h.c2, (c 3).trans h.c3, (f 0).trans h.f0, (f 1).trans h.f1, (f 2).trans h.f2, (f 3).trans h.f3, Nat.lt_of_lt_of_le h.lt hs⟩

theorem TB.below {b : Nat} {W W' : World} {x0 x1 x2 x3 : Value} (h : TB b W x0 x1 x2 x3) (hb : Below W.heap.size W W') : TB b W' x0 x1 x2 x3 := h.blk hb.size (hb.block b h.lt)
theorem TB.belowB {b B : Nat} {W W' : World} {x0 x1 x2 x3 : Value} (h : TB b W x0 x1 x2 x3) (hb : Below B W W') (hB : b < B) : TB b W' x0 x1 x2 x3 := h.blk hb.size (hb.block b hB)

theorem setCell_other (W : World) (b i k : Nat) (v : Value) (h : k ≠ b) : (W.setCell ⟨b, i, none⟩ v).heap[k]? = W.heap[k]? := by
  simp [World.setCell, Array.getElem?_modify, Ne.symm h]
theorem sizeCell17 (W : World) (b i : Nat) (v : Value) : (W.setCell ⟨b, i, none⟩ v).heap.size = W.heap.size := by simp [World.setCell]

theorem TB.far {b k i : Nat} {W : World} {x0 x1 x2 x3 : Value} (h : TB b W x0 x1 x2 x3) (hne : b ≠ k) (v : Value) : TB b (W.setCell ⟨k, i, none⟩ v) x0 x1 x2 x3 :=
  h.blk (by rw [sizeCell17]; exact Nat.le_refl _) (setCell_other W k i b v hne)

theorem TB.set0 {b : Nat} {W : World} {x0 x1 x2 x3 : Value} (h : TB b W x0 x1 x2 x3) (v : Value) : TB b (W.setCell ⟨b, 0, none⟩ v) v x1 x2 x3 :=
  ⟨World.cell?_setCell_same _ _ _ h.c0, (World.cell?_setCell_other _ _ _ _ (fun e => by cases e)).trans h.c1, (World.cell?_setCell_other _ _ _ _ (fun e => by cases e)).trans h.c2, (World.cell?_setCell_other _ _ _ _ (fun e => by cases e)).trans h.c3,
    (World.frozen?_setCell _ _ _ _).trans h.f0, (World.frozen?_setCell _ _ _ _).trans h.f1, (World.frozen?_setCell _ _ _ _).trans h.f2, (World.frozen?_setCell _ _ _ _).trans h.f3, by rw [sizeCell17]; exact h.lt⟩
theorem TB.set1 {b : Nat} {W : World} {x0 x1 x2 x3 : Value} (h : TB b W x0 x1 x2 x3) (v : Value) : TB b (W.setCell ⟨b, 1, none⟩ v) x0 v x2 x3 :=
  ⟨(World.cell?_setCell_other _ _ _ _ (fun e => by cases e)).trans h.c0, World.cell?_setCell_same _ _ _ h.c1, (World.cell?_setCell_other _ _ _ _ (fun e => by cases e)).trans h.c2, (World.cell?_setCell_other _ _ _ _ (fun e => by cases e)).trans h.c3,
    (World.frozen?_setCell _ _ _ _).trans h.f0, (World.frozen?_setCell _ _ _ _).trans h.f1, (World.frozen?_setCell _ _ _ _).trans h.f2, (World.frozen?_setCell _ _ _ _).trans h.f3, by rw [sizeCell17]; exact h.lt⟩
theorem TB.set2 {b : Nat} {W : World} {x0 x1 x2 x3 : Value} (h : TB b W x0 x1 x2 x3) (v : Value) : TB b (W.setCell ⟨b, 2, none⟩ v) x0 x1 v x3 :=
  ⟨(World.cell?_setCell_other _ _ _ _ (fun e => by cases e)).trans h.c0, (World.cell?_setCell_other _ _ _ _ (fun e => by cases e)).trans h.c1, World.cell?_setCell_same _ _ _ h.c2, (World.cell?_setCell_other _ _ _ _ (fun e => by cases e)).trans h.c3,
    (World.frozen?_setCell _ _ _ _).trans h.f0, (World.frozen?_setCell _ _ _ _).trans h.f1, (World.frozen?_setCell _ _ _ _).trans h.f2, (World.frozen?_setCell _ _ _ _).trans h.f3, by rw [sizeCell17]; exact h.lt⟩
theorem TB.set3 {b : Nat} {W : World} {x0 x1 x2 x3 : Value} (h : TB b W x0 x1 x2 x3) (v : Value) : TB b (W.setCell ⟨b, 3, none⟩ v) x0 x1 x2 v :=
  ⟨(World.cell?_setCell_other _ _ _ _ (fun e => by cases e)).trans h.c0, (World.cell?_setCell_other _ _ _ _ (fun e => by cases e)).trans h.c1, (World.cell?_setCell_other _ _ _ _ (fun e => by cases e)).trans h.c2, World.cell?_setCell_same _ _ _ h.c3,
    (World.frozen?_setCell _ _ _ _).trans h.f0, (World.frozen?_setCell _ _ _ _).trans h.f1, (World.frozen?_setCell _ _ _ _).trans h.f2, (World.frozen?_setCell _ _ _ _).trans h.f3, by rw [sizeCell17]; exact h.lt⟩

theorem TB.res {b : Nat} {W : World} {x0 x1 x2 x3 : Value} (h : TB b W x0 x1 x2 x3) (y0 y1 y2 y3 : Value) : TB b (put4 W b y0 y1 y2 y3) y0 y1 y2 y3 := (((h.set0 y0).set1 y1).set2 y2).set3 y3
theorem TB.put_far {b k : Nat} {W : World} {x0 x1 x2 x3 : Value} (h : TB b W x0 x1 x2 x3) (hne : b ≠ k) (y0 y1 y2 y3 : Value) : TB b (put4 W k y0 y1 y2 y3) x0 x1 x2 x3 := (((h.far hne y0).far hne y1).far hne y2).far hne y3

/-! ### what read gives -/
def ReadBad (w : World) (e : Ending) (w' : World) : Prop := ∃ (row : RT) (p : Option Addr) (n c : Nat), e = .returned (.tuple #[.agg #[.int .i64 row.op, .int .i64 row.num, .int .i64 row.more, .slice row.p row.n row.c], .slice p n c, .bool false]) ∧ Below w.heap.size w w'
def ReadGood (b : Nat) (t : Tm) (r : List (List UInt8)) (w : World) (e : Ending) (w' : World) : Prop := ∃ (row : RT) (p : Option Addr) (c d : Nat), e = .returned (.tuple #[.agg #[.int .i64 row.op, .int .i64 row.num, .int .i64 row.more, .slice row.p row.n row.c], .slice p r.length c, .bool true]) ∧ TV (NewQ w.heap.size) w' d row t ∧ WSl w' p c (r.map bs) ∧ (∀ a, p = some a → r = [] ∨ a.block = b) ∧ Below w.heap.size w w'
def ReadG (b : Nat) (o : Option (Tm × List (List UInt8))) (w : World) : Ending → World → Prop := match o with | none => ReadBad w | some (t, r) => ReadGood b t r w

def ReadAt (f : Nat) : Prop := ∀ (p : Option Addr) (c : Nat) (ws : List ByteArray) (w : World) (b : Nat), WSl w p c ws → (∀ a, p = some a → ws = [] ∨ a.block = b) → b < w.heap.size → (∀ x ∈ ws, x.size ≤ 16384) → ws.length ≤ 1000000 → 2 * ws.length ≤ f →
  Calls Tryz.prog 94 #[.slice p ws.length c] w (ReadG b (readT f (ll ws)) w)

/-- The result is written; t is any block. -/
theorem read_bad {w W : World} (row : RT) (p : Option Addr) (n c : Nat) (hb : Below w.heap.size w W) : ReadBad w (.returned (.tuple #[.agg #[.int .i64 row.op, .int .i64 row.num, .int .i64 row.more, .slice row.p row.n row.c], .slice p n c, .bool false])) (put4 W w.heap.size (.int .i64 row.op) (.int .i64 row.num) (.int .i64 row.more) (.slice row.p row.n row.c)) :=
  ⟨row, p, n, c, rfl, hb.trans (put4_below (Nat.le_refl _) _ _ _ _)⟩

theorem read_good {w W : World} {t : Tm} {r : List (List UInt8)} {row : RT} {p : Option Addr} {b c d : Nat} (hb : Below w.heap.size w W) (hbl : b < w.heap.size) (hw : WSl W p c (r.map bs)) (hp : ∀ a, p = some a → r = [] ∨ a.block = b) (hv : TV (NewQ (w.heap.size + 1)) W d row t) :
    ReadGood b t r w (.returned (.tuple #[.agg #[.int .i64 row.op, .int .i64 row.num, .int .i64 row.more, .slice row.p row.n row.c], .slice p r.length c, .bool true])) (put4 W w.heap.size (.int .i64 row.op) (.int .i64 row.num) (.int .i64 row.more) (.slice row.p row.n row.c)) := by
  have hs := put4_block W w.heap.size (.int .i64 row.op) (.int .i64 row.num) (.int .i64 row.more) (.slice row.p row.n row.c)
  refine ⟨row, p, c, d, rfl, hv.change (by rw [hs.1]; exact Nat.le_refl _) fun b hq _ => ⟨hs.2 b (by unfold NewQ at hq; omega), by unfold NewQ at *; omega⟩, ⟨hw.recs.blocks (by rw [hs.1]; exact Nat.le_refl _) fun a ea => ?_, hw.le, hw.nn⟩, hp, hb.trans (put4_below (Nat.le_refl _) _ _ _ _)⟩
  rcases hp a ea with h | h
  · exact .inl (by rw [h]; rfl)
  · exact .inr (hs.2 _ (by omega))

theorem ReadBad.alloc {w W : World} {e : Ending} (h : ReadBad w e W) (hz : w.heap.size ≤ W.heap.size) (o : Obj) : ReadBad w e (W.alloc o) := by
  obtain ⟨row, p, n, c, he, hb⟩ := h
  exact ⟨row, p, n, c, he, hb.alloc hz o⟩

theorem ReadGood.alloc {b : Nat} {t : Tm} {r : List (List UInt8)} {w W : World} {e : Ending} (h : ReadGood b t r w e W) (o : Obj) : ReadGood b t r w e (W.alloc o) := by
  obtain ⟨row, p, c, d, he, hv, hw, hp, hb⟩ := h
  have hA : Below W.heap.size W (W.alloc o) := (Below.refl _ _).alloc (Nat.le_refl _) _
  exact ⟨row, p, c, d, he, hv.below hA, hw.below hA, hp, hb.alloc hb.size o⟩

/-- 'not': the kid's row lies in new memory behind the blocks of the call. -/
theorem read_not {w w2 : World} {k : Tm} {r : List (List UInt8)} {row : RT} {p : Option Addr} {b c d : Nat} {T : TypeId} (hb : Below w.heap.size w w2) (hbl : b < w.heap.size) (hz : w.heap.size + 1 < w2.heap.size) (hw : WSl w2 p c (r.map bs)) (hp : ∀ a, p = some a → r = [] ∨ a.block = b) (hv : TV (NewQ (w.heap.size + 2)) w2 d row k) :
    ReadGood b (.mk 11 0 0 [k]) r w (.returned (.tuple #[.agg #[.int .i64 11, .int .i64 0, .int .i64 0, .slice (some ⟨w2.heap.size + 1, 0, none⟩) 1 1], .slice p r.length c, .bool true]))
      (((put4 (w2.setCell ⟨w.heap.size + 1, 3, none⟩ (.slice (some ⟨w2.heap.size + 1, 0, none⟩) 1 1)) w.heap.size (.int .i64 11) (.int .i64 0) (.int .i64 0) (.slice (some ⟨w2.heap.size + 1, 0, none⟩) 1 1)).alloc (.cells #[.int .i64 row.op, .int .i64 row.num, .int .i64 row.more, .slice row.p row.n row.c] T)).alloc (.cells #[.int .i64 row.op, .int .i64 row.num, .int .i64 row.more, .slice row.p row.n row.c] T)) := by
  obtain ⟨S, eS⟩ : ∃ S : Value, S = .slice (some ⟨w2.heap.size + 1, 0, none⟩) 1 1 := ⟨_, rfl⟩
  rw [← eS]
  obtain ⟨X, eX⟩ : ∃ X, X = put4 (w2.setCell ⟨w.heap.size + 1, 3, none⟩ S) w.heap.size (.int .i64 11) (.int .i64 0) (.int .i64 0) S := ⟨_, rfl⟩
  have hblk := put4_block (w2.setCell ⟨w.heap.size + 1, 3, none⟩ S) w.heap.size (.int .i64 11) (.int .i64 0) (.int .i64 0) S
  rw [← eX] at hblk ⊢
  have hXs : X.heap.size = w2.heap.size := by rw [hblk.1, sizeCell17]
  have hXb : ∀ g, g ≠ w.heap.size → g ≠ w.heap.size + 1 → X.heap[g]? = w2.heap[g]? := fun g h1 h2 => (hblk.2 g h1).trans (setCell_other _ _ _ _ _ h2)
  have hXB : Below w.heap.size w X := by
    rw [eX]
    exact (hb.setCell (Nat.le_succ _) _).trans (put4_below (Nat.le_refl _) _ _ _ _)
  obtain ⟨Y, eY⟩ : ∃ Y, Y = X.alloc (.cells #[.int .i64 row.op, .int .i64 row.num, .int .i64 row.more, .slice row.p row.n row.c] T) := ⟨_, rfl⟩
  have hA1 : Below X.heap.size X Y := by rw [eY]; exact (Below.refl _ _).alloc (Nat.le_refl _) _
  have hYs : Y.heap.size = w2.heap.size + 1 := by rw [eY, World.size_alloc, hXs]
  rw [← eY]
  have hA2 : Below Y.heap.size Y (Y.alloc (.cells #[.int .i64 row.op, .int .i64 row.num, .int .i64 row.more, .slice row.p row.n row.c] T)) := (Below.refl _ _).alloc (Nat.le_refl _) _
  have hXY : Below X.heap.size X (Y.alloc (.cells #[.int .i64 row.op, .int .i64 row.num, .int .i64 row.more, .slice row.p row.n row.c] T)) := bstep (Nat.le_refl _) hA1 hA2
  refine ⟨⟨11, 0, 0, some ⟨w2.heap.size + 1, 0, none⟩, 1, 1⟩, p, c, d + 1, by rw [eS], ⟨⟨rfl, rfl, rfl, rfl, Nat.le_refl _, fun e => by cases e⟩, [row], rfl, ?_, fun a e => .inr (by cases e; show w.heap.size ≤ w2.heap.size + 1; omega), fun j hj hj' => ?_⟩, ⟨?_, hw.le, hw.nn⟩, hp, bstep (Nat.le_refl _) hXB hXY⟩
  · have := Recs.lit (S := ST) Y T [row] (by show 1 ≤ _; unfold maxLen; omega)
    rw [hYs] at this
    exact this
  · have : j = 0 := by simp at hj; exact hj
    subst this
    have h1 : TV (NewQ w.heap.size) X d row k := hv.change (by rw [hXs]; exact Nat.le_refl _) fun g hq _ => ⟨hXb g (by unfold NewQ at hq; omega) (by unfold NewQ at hq; omega), by unfold NewQ at *; omega⟩
    exact ⟨h1.is, h1.at_.below hXY⟩
  · refine (hw.recs.blocks (w' := X) (by rw [hXs]; exact Nat.le_refl _) fun a ea => ?_).below hXY
    rcases hp a ea with h | h
    · exact .inl (by rw [h]; rfl)
    · exact .inr (hXb _ (by omega) (by omega))

end Go.Proofs.YtflcdkibjakciaaGreatDoor

namespace Go.Proofs.YtflcdkibjakciaaGreatDoor
open Go.RowKit Te

set_option maxRecDepth 100000 in
set_option maxHeartbeats 8000000 in
theorem same16_any {Q1 Q2 : Nat → Prop} : ∀ (d : Nat) (e : Nat) (r1 r2 : RT) (t : Tm) (w : World), TV Q1 w d r1 t → TV Q2 w e r2 t →
    Calls Tryz.prog 57 #[.agg #[.int .i64 r1.op, .int .i64 r1.num, .int .i64 r1.more, .slice r1.p r1.n r1.c], .agg #[.int .i64 r2.op, .int .i64 r2.num, .int .i64 r2.more, .slice r2.p r2.n r2.c]] w (BoolG true w) := by
  intro d
  induction d using Nat.strongRecOn with
  | _ d ih =>
  intro e r1 r2 t w h1 h2
  obtain ⟨o, n, m, p1, l1, c1⟩ := r1
  obtain ⟨o2, n2, m2, p2, l2, c2⟩ := r2
  obtain ⟨t0, tn, tm, K⟩ := t
  obtain rfl : o = t0 := h1.is.op
  obtain rfl : n = tn := h1.is.num
  obtain rfl : m = tm := h1.is.more
  obtain rfl : o2 = o := h2.is.op
  obtain rfl : n2 = n := h2.is.num
  obtain rfl : m2 = m := h2.is.more
  have ha : TmsAt Q1 w d p1 K := h1.at_
  have hb : TmsAt Q2 w e p2 K := h2.at_
  have hl1 : l1 = K.length := h1.is.n
  have hl2 : l2 = K.length := h2.is.n
  have hn := ha.len
  simp only
  subst hl1
  subst hl2
  have hA : Below w.heap.size w ((w.alloc (.cells #[.int .i64 o2, .int .i64 n2, .int .i64 m2, .slice p1 K.length c1] 29)).alloc (.cells #[.int .i64 o2, .int .i64 n2, .int .i64 m2, .slice p2 K.length c2] 29)) := ((Below.refl _ _).alloc (Nat.le_refl _) _).alloc (by simp) _
  have HX1 := Lib.hid (show ((w.alloc (.cells #[.int .i64 o2, .int .i64 n2, .int .i64 m2, .slice p1 K.length c1] 29)).alloc (.cells #[.int .i64 o2, .int .i64 n2, .int .i64 m2, .slice p2 K.length c2] 29)).cell? ⟨w.heap.size, 3, none⟩ = some (.slice p1 K.length c1) by go_simp)
  have HX2 := Lib.hid (show ((w.alloc (.cells #[.int .i64 o2, .int .i64 n2, .int .i64 m2, .slice p1 K.length c1] 29)).alloc (.cells #[.int .i64 o2, .int .i64 n2, .int .i64 m2, .slice p2 K.length c2] 29)).cell? ⟨w.heap.size + 1, 3, none⟩ = some (.slice p2 K.length c2) by go_simp)
  have HA := Lib.hid hA
  have H1 := Lib.hid ha
  have H2 := Lib.hid hb
  have IH := Lib.hid ih
  clear h1 h2 ha hb hA ih
  go_enter Tryz.func57, Tryz.ntmps57
  go_wp2
  go_loopw [37] (fun i wr => ∃ j : Nat, j ≤ K.length ∧ i = .int .i64 j ∧ Below w.heap.size w wr ∧ wr.cell? ⟨w.heap.size, 3, none⟩ = some (.slice p1 K.length c1) ∧ wr.cell? ⟨w.heap.size + 1, 3, none⟩ = some (.slice p2 K.length c2) ∧ w.heap.size + 1 < wr.heap.size) (fun i _ => K.length - (intOf i).toNat)
  case atStart => exact ⟨0, Nat.zero_le _, rfl, HA.out, HX1.out, HX2.out, by simp⟩
  case round =>
    clear HA HX1 HX2
    obtain ⟨wo, rfl⟩ : ∃ wo : World, wo = wr := ⟨_, rfl⟩
    obtain ⟨j, hj, rfl, hb, x1, x2, hlz⟩ := hrel
    have HB := Lib.hid hb
    have hj0 : (0 : Int) ≤ (j : Int) := Int.natCast_nonneg _
    by_cases hlt : j < K.length
    · have hj1 : (j : Int) < (K.length : Int) := by omega
      obtain ⟨e1, b1, off1, k1, rfl, rfl, hbl1, hc1, hv1⟩ := (H1.out.below hb).kid hlt
      obtain ⟨e2, b2, off2, k2, rfl, rfl, hbl2, hc2, hv2⟩ := (H2.out.below hb).kid hlt
      obtain ⟨c10, c11, c12, c13⟩ := hc1
      obtain ⟨c20, c21, c22, c23⟩ := hc2
      have HK := Lib.hid (IH.out e1 (by omega) e2 k1 k2 K[j] wo.drew (hv1.below ((Below.refl _ _).drew)) (hv2.below ((Below.refl _ _).drew)))
      have X1 := Lib.hid x1
      have X2 := Lib.hid x2
      clear hv1 hv2 hb
      go_wp2_with fail
      refine wp_tail 10 (by kernel_rfl) (by kernel_rfl) ?_
      simp only [List.take_succ_cons, List.take_zero, List.drop_succ_cons, List.drop_zero]
      repeat still_step
      refine wpStill_nil ?_
      change wpList _ _ _ _ _ (World.drew _)
      go_wp2_with (first | (go_at_call 57; (with_reducible refine Calls.mono HK.out ?_); rintro e w1 ⟨rfl, hb1'⟩; have hb1 := bdrew' hb1'; have y1 := (hb1.cell (p := ⟨w.heap.size, 3, none⟩) (by show w.heap.size < wo.heap.size; omega)).trans X1.out; have y2 := (hb1.cell (p := ⟨w.heap.size + 1, 3, none⟩) hlz).trans X2.out))
      go_roundw
      case rel => exact ⟨j + 1, by omega, by go_num, bstep (Nat.le_refl _) HB.out hb1, y1, y2, Nat.lt_of_lt_of_le hlz hb1.size⟩
      case measure => simp [intOf]; omega
    · obtain rfl : j = K.length := by omega
      clear hb
      go_wp2
      go_ret
      exact ⟨rfl, HB.out⟩

set_option maxHeartbeats 2000000 in
/-- exact.Down of a hundredth. -/
theorem down100_any (n : Int) (h0 : 0 ≤ n) (h1 : n ≤ 1125899906842624) (w : World) : Calls Tryz.prog 36 #[.int .i64 n, .int .i64 100] w fun e w' => e = .returned (.int .i64 (n / 100)) ∧ w = w' := by
  have FT : ∀ W, Calls Tryz.prog 62 #[.int .i64 n, .int .i64 100] W fun e w' => e = .returned (.bool true) ∧ W = w' := fun W => by
    have g : ¬ n < -1125899906842624 := by omega
    have g2 : (-1125899906842624 : Int) ≤ n := by omega
    go_enter Tryz.func62, Tryz.ntmps62
    go_wp2
    go_ret
    exact ⟨rfl, rfl⟩
  have FT := Lib.hid FT
  have hq : n.tdiv 100 = n / 100 := Int.tdiv_eq_ediv_of_nonneg h0
  have hr : n.tmod 100 = n % 100 := Int.tmod_eq_emod_of_nonneg h0
  have hr2 : ¬ n % 100 < 0 := by omega
  go_enter Tryz.func36, Tryz.ntmps36
  go_wp2_with (first | (go_at_call 62; (with_reducible refine Calls.mono (FT.out _) ?_); rintro e w1 ⟨rfl, rfl⟩))
  go_ret
  exact ⟨rfl, rfl⟩

set_option maxHeartbeats 2000000 in
theorem refdown100_any (n : Int) (h0 : 0 ≤ n) (h1 : n ≤ 1125899906842624) (w : World) : Calls Tryz.prog 52 #[.int .i64 n, .int .i64 100] w fun e w' => e = .returned (.int .i64 (n / 100)) ∧ w = w' := by
  have FT : ∀ W, Calls Tryz.prog 92 #[.int .i64 n, .int .i64 100] W fun e w' => e = .returned (.bool true) ∧ W = w' := fun W => by
    have g2 : (-1125899906842624 : Int) ≤ n := by omega
    go_enter Tryz.func92, Tryz.ntmps92
    go_wp2
    go_ret
    exact ⟨rfl, rfl⟩
  have FT := Lib.hid FT
  have hr2 : ¬ n < n / 100 * 100 := by omega
  go_enter Tryz.func52, Tryz.ntmps52
  go_wp2_with (first | (go_at_call 92; (with_reducible refine Calls.mono (FT.out _) ?_); rintro e w1 ⟨rfl, rfl⟩))
  go_ret
  exact ⟨rfl, rfl⟩

end Go.Proofs.YtflcdkibjakciaaGreatDoor
