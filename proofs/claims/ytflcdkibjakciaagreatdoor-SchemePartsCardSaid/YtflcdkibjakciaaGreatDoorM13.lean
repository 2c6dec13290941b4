/-
  MERGED (mergek.py): the texts Rz, Cl, Wt.
-/
import Derived.Test.YtflcdkibjakciaaGreatDoorM5
import Derived.Test.YtflcdkibjakciaaGreatDoorM6
import Derived.Test.YtflcdkibjakciaaGreatDoorM12
import Derived.Test.YtflcdkibjakciaaGreatDoorM10
import Derived.Test.YtflcdkibjakciaaGreatDoorM9
import Derived.Test.YtflcdkibjakciaaGreatDoorM1

namespace Go.Proofs.YtflcdkibjakciaaGreatDoor
open Go.RowKit Te Sc

theorem Appends.apart {w w' : World} {B G : Nat} {v v' : Value} (h : Appends w w' B G v v') {b : Nat} (hG : w.heap.size ≤ G) (hb : b < w.heap.size) (hn : v.ownBlock ≠ some b) : v'.ownBlock ≠ some b := fun e2 => by
  rcases h.block with e3 | e3
  · rw [e3] at e2; exact hn e2
  · rw [e3] at e2; injection e2 with e2; omega

/-- Where the schemes' own memory may lie, beside the row of schemes and the last brackets. -/
def Qx (B : Nat) (v : Value) (lb : Option Nat) (b : Nat) : Prop := B ≤ b ∧ v.ownBlock ≠ some b ∧ lb ≠ some b

/-- The last row, and what it leads to. -/
structure Row1 (Q : Nat → Prop) (wr : World) (B d : Nat) (lb : Option Nat) (r : RSx) (s : Sch) : Prop where
  num : r.num = s.num
  nm : r.nm = s.nm
  t : TV Q wr d r.t s.cond
  br : OwnR SBk wr 34 B (.slice r.bp r.bn r.bc) s.br
  bn : r.bn = s.br.length
  bk : (Value.slice r.bp r.bn r.bc).ownBlock = lb
  least : r.least = s.least
  ex : r.ex = s.ex
  needs : r.needs = s.needs

structure BR (B d : Nat) (wr : World) (v : Value) (A : List Sch) (R : List RSx) (r : RSx) (lb : Option Nat) : Prop where
  hl : R.length = A.length
  own : OwnR SSc wr 32 B v (R ++ [r])
  init : ∀ k (h : k < R.length) (h' : k < A.length), SV (Qx B v lb) wr d R[k] A[k]
  apart : ∀ b, lb = some b → v.ownBlock ≠ some b

/-- The schemes A and s, the last one. -/
def Bld (B : Nat) (wr : World) (v : Value) (A : List Sch) (s : Sch) : Prop := ∃ (d : Nat) (R : List RSx) (r : RSx) (lb : Option Nat), BR B d wr v A R r lb ∧ Row1 (Qx B v lb) wr B d lb r s

theorem Bld.blocks {B : Nat} {wr w' : World} {v : Value} {A : List Sch} {s : Sch} (h : Bld B wr v A s) (hs : wr.heap.size ≤ w'.heap.size) (hb : ∀ b, B ≤ b → b < wr.heap.size → w'.heap[b]? = wr.heap[b]?) : Bld B w' v A s := by
  obtain ⟨d, R, r, lb, h1, h2⟩ := h
  have key : ∀ b, Qx B v lb b → b < wr.heap.size → w'.heap[b]? = wr.heap[b]? ∧ Qx B v lb b := fun b q hl => ⟨hb b q.1 hl, q⟩
  exact ⟨d, R, r, lb, ⟨h1.hl, h1.own.blocks (fun g _ h3 h4 => hb g h3 h4), fun k a b => (h1.init k a b).change hs key, h1.apart⟩,
    ⟨h2.num, h2.nm, h2.t.change hs key, h2.br.blocks (fun g _ h3 h4 => hb g h3 h4), h2.bn, h2.bk, h2.least, h2.ex, h2.needs⟩⟩

theorem Bld.below {B : Nat} {wr w' : World} {v : Value} {A : List Sch} {s : Sch} (h : Bld B wr v A s) (hb : Below wr.heap.size wr w') : Bld B w' v A s := h.blocks hb.size fun b _ hl => hb.block b hl
theorem Bld.drew {B : Nat} {wr : World} {v : Value} {A : List Sch} {s : Sch} (h : Bld B wr v A s) : Bld B wr.drew v A s := h.below (Below.refl _ _).drew

/-- The last row of brackets, seen as any other. -/
theorem Row1.sv {B d : Nat} {wr w' : World} {v v' : Value} {lb : Option Nat} {r : RSx} {s : Sch} (h : Row1 (Qx B v lb) wr B d lb r s) (hs : wr.heap.size ≤ w'.heap.size) (hap : ∀ b, lb = some b → v.ownBlock ≠ some b)
    (hb : ∀ b, B ≤ b → b < wr.heap.size → v.ownBlock ≠ some b → w'.heap[b]? = wr.heap[b]? ∧ v'.ownBlock ≠ some b) : SV (Qx B v' none) w' d r s := by
  have ho : OwnR SBk w' 34 B (.slice r.bp r.bn r.bc) s.br := h.br.blocks fun g e h3 h4 => (hb g h3 h4 (hap g (h.bk ▸ e))).1
  obtain ⟨p, c, e, h1, h2, h3, -, h5⟩ := ho.cut h.bn.symm
  simp only [Value.slice.injEq, true_and] at e
  obtain ⟨e1, e2⟩ := e
  refine ⟨h.num, h.nm, h.t.change hs fun b q hl => ⟨(hb b q.1 hl q.2.1).1, q.1, (hb b q.1 hl q.2.1).2, fun e => by cases e⟩, e1 ▸ h5, h.bn, by rw [e2]; exact h3, fun e => by rw [e2]; exact (h1 (e1 ▸ e)).1, fun a ea => ?_, h.least, h.ex, h.needs⟩
  have h6 := h2 a (e1 ▸ ea)
  have hown : (Value.slice r.bp r.bn r.bc).ownBlock = some a.block := by rw [ea]; rfl
  have hlt : a.block < wr.heap.size := (h.br.lt hown).2
  exact .inr ⟨h6.2.2.1, (hb _ h6.2.2.1 hlt (hap _ (h.bk ▸ hown))).2, fun e => by cases e⟩

/-- A row of the call's own as a whole law. -/
theorem Bld.ss {B : Nat} {wr : World} {v : Value} {A : List Sch} {s : Sch} (h : Bld B wr v A s) {n : Nat} (hn : (A ++ [s]).length = n) : ∃ p c d, v = .slice p n c ∧ n ≤ c ∧ SsAt (fun b => B ≤ b) wr d p (A ++ [s]) := by
  obtain ⟨d, R, r, lb, h1, h2⟩ := h
  have hRl : (R ++ [r]).length = n := by rw [← hn, List.length_append, List.length_append, h1.hl]; rfl
  obtain ⟨p, c, e, k1, k2, k3, -, k5⟩ := h1.own.cut hRl
  have ho := h2.br
  obtain ⟨p', c', e', h1', h2', h3', -, h5'⟩ := ho.cut h2.bn.symm
  simp only [Value.slice.injEq, true_and] at e'
  obtain ⟨e1, e2⟩ := e'
  have hwd : ∀ b, Qx B v lb b → b < wr.heap.size → wr.heap[b]? = wr.heap[b]? ∧ B ≤ b := fun b q _ => ⟨rfl, q.1⟩
  refine ⟨p, c, d, e, k3, ⟨⟨R ++ [r], by rw [hRl, hn], k5, fun k a b => ?_⟩, fun a ea => .inr (k2 a ea).2.2.1⟩⟩
  by_cases hlt : k < R.length
  · rw [List.getElem_append_left hlt, List.getElem_append_left (by rw [← h1.hl]; exact hlt)]
    exact (h1.init k hlt (by rw [← h1.hl]; exact hlt)).change (Nat.le_refl _) hwd
  · have ek : k = R.length := by rw [List.length_append] at a; simp at a; omega
    subst ek
    rw [List.getElem_append_right (Nat.le_refl _), List.getElem_append_right (by rw [h1.hl]; exact Nat.le_refl _)]
    simp only [Nat.sub_self, h1.hl, List.getElem_cons_zero]
    exact ⟨h2.num, h2.nm, h2.t.change (Nat.le_refl _) hwd, e1 ▸ h5', h2.bn, by rw [e2]; exact h3', fun e => by rw [e2]; exact (h1' (e1 ▸ e)).1, fun a ea => .inr (h2' a (e1 ▸ ea)).2.2.1, h2.least, h2.ex, h2.needs⟩

/-- What has been read. -/
def BldAt (B : Nat) (wr : World) (v : Value) (L : List Sch) : Prop := (L = [] ∧ OwnR SSc wr 32 B v []) ∨ ∃ A s, L = A ++ [s] ∧ Bld B wr v A s

theorem BldAt.blocks {B : Nat} {wr w' : World} {v : Value} {L : List Sch} (h : BldAt B wr v L) (hs : wr.heap.size ≤ w'.heap.size) (hb : ∀ b, B ≤ b → b < wr.heap.size → w'.heap[b]? = wr.heap[b]?) : BldAt B w' v L := by
  rcases h with ⟨h1, h2⟩ | ⟨A, s, h1, h2⟩
  · exact .inl ⟨h1, h2.blocks fun g _ h3 h4 => hb g h3 h4⟩
  · exact .inr ⟨A, s, h1, h2.blocks hs hb⟩
theorem BldAt.below {B : Nat} {wr w' : World} {v : Value} {L : List Sch} (h : BldAt B wr v L) (hb : Below wr.heap.size wr w') : BldAt B w' v L := h.blocks hb.size fun b _ hl => hb.block b hl

/-- The same, with the rows named. -/
def BldR (B : Nat) (wr : World) (v : Value) (R : List RSx) (L : List Sch) : Prop := (L = [] ∧ R = [] ∧ OwnR SSc wr 32 B v []) ∨ ∃ A s d R' r lb, L = A ++ [s] ∧ R = R' ++ [r] ∧ BR B d wr v A R' r lb ∧ Row1 (Qx B v lb) wr B d lb r s

theorem BldAt.rows {B : Nat} {wr : World} {v : Value} {L : List Sch} (h : BldAt B wr v L) : ∃ R : List RSx, R.length = L.length ∧ OwnR SSc wr 32 B v R ∧ BldR B wr v R L := by
  rcases h with ⟨rfl, h2⟩ | ⟨A, s, rfl, d, R, r, lb, h1, h2⟩
  · exact ⟨[], rfl, h2, .inl ⟨rfl, rfl, h2⟩⟩
  · exact ⟨R ++ [r], by rw [List.length_append, List.length_append, h1.hl]; rfl, h1.own, .inr ⟨A, s, d, R, r, lb, rfl, rfl, h1, h2⟩⟩

theorem BldAt.own {B : Nat} {wr : World} {v : Value} {L : List Sch} (h : BldAt B wr v L) : ∃ R : List RSx, R.length = L.length ∧ OwnR SSc wr 32 B v R := by
  rcases h with ⟨rfl, h2⟩ | ⟨A, s, rfl, d, R, r, lb, h1, h2⟩
  · exact ⟨[], rfl, h2⟩
  · exact ⟨R ++ [r], by rw [List.length_append, List.length_append, h1.hl]; rfl, h1.own⟩

/-- A row with neither condition nor bracket. -/
def rowF (num : Int) (nm : ByteArray) (least : Int) (needs : Bool) : RSx := ⟨num, nm, ⟨0, 0, 0, none, 0, 0⟩, none, 0, 0, least, 0, needs⟩
def schF (num : Int) (nm : ByteArray) (least : Int) (needs : Bool) : Sch := ⟨num, nm, .mk 0 0 0 [], [], least, 0, needs⟩

theorem row1F (Q : Nat → Prop) (wr : World) (B d : Nat) (num : Int) (nm : ByteArray) (least : Int) (needs : Bool) : Row1 Q wr B d none (rowF num nm least needs) (schF num nm least needs) :=
  ⟨rfl, rfl, ⟨⟨rfl, rfl, rfl, rfl, Nat.le_refl _, fun _ => rfl⟩, TmsAt.nil _ _ _ _⟩, OwnR.nil _ _ _, rfl, rfl, rfl, rfl, rfl⟩

/-- One scheme more. -/
theorem BldR.push {B G : Nat} {wr w5 w6 : World} {v v6 : Value} {R0 : List RSx} {L : List Sch} (h : BldR B wr v R0 L) (hb : Below wr.heap.size wr w5) (hG : w5.heap.size ≤ G) {num : Int} {nm : ByteArray} {least : Int} {needs : Bool}
    (hO : OwnR SSc w6 32 B v6 (R0 ++ [rowF num nm least needs])) (hap : Appends w5 w6 B G v v6) : Bld B w6 v6 L (schF num nm least needs) := by
  have hsz : wr.heap.size ≤ w6.heap.size := Nat.le_trans hb.size hap.size
  have key : ∀ b, B ≤ b → b < wr.heap.size → v.ownBlock ≠ some b → w6.heap[b]? = wr.heap[b]? ∧ v6.ownBlock ≠ some b := fun b _ hl hn =>
    have hl5 := Nat.lt_of_lt_of_le hl hb.size
    ⟨(hap.far b hl5 hn).trans (hb.block b hl), hap.apart hG hl5 hn⟩
  rcases h with ⟨rfl, rfl, h2⟩ | ⟨A, s, d, R, r, lb, rfl, rfl, h1, h2⟩
  · exact ⟨0, [], _, none, ⟨rfl, hO, fun k h => by simp at h, fun b e => by cases e⟩, row1F _ _ _ _ _ _ _ _⟩
  · refine ⟨d, R ++ [r], _, none, ⟨by rw [List.length_append, List.length_append, h1.hl]; rfl, hO, fun k a b => ?_, fun b e => by cases e⟩, row1F _ _ _ _ _ _ _ _⟩
    by_cases hlt : k < R.length
    · rw [List.getElem_append_left hlt, List.getElem_append_left (by rw [← h1.hl]; exact hlt)]
      exact (h1.init k hlt (by rw [← h1.hl]; exact hlt)).change hsz fun b q hl => ⟨(key b q.1 hl q.2.1).1, q.1, (key b q.1 hl q.2.1).2, fun e => by cases e⟩
    · have ek : k = R.length := by rw [List.length_append] at a; simp at a; omega
      subst ek
      rw [List.getElem_append_right (Nat.le_refl _), List.getElem_append_right (by rw [h1.hl]; exact Nat.le_refl _)]
      simp only [Nat.sub_self, h1.hl, List.getElem_cons_zero]
      exact h2.sv hsz h1.apart key

/-- The last row's cells. -/
theorem BR.at {B d : Nat} {wr : World} {v : Value} {A : List Sch} {R : List RSx} {r : RSx} {lb : Option Nat} (h : BR B d wr v A R r lb) : ∃ g c, v = .slice (some ⟨g, 0, none⟩) (A.length + 1) c ∧ B ≤ g ∧ g < wr.heap.size ∧ A.length + 1 ≤ 9223372036854775807 ∧ SCells wr g (A.length * 10) r ∧ (∀ i, wr.frozen? ⟨g, i, none⟩ = false) ∧
    ∀ i u r', i < 10 → sCells r' = (sCells r).set i u → OwnR SSc (wr.setCell ⟨g, A.length * 10 + i, none⟩ u) 32 B v (R ++ [r']) := by
  have hk : R.length < (R ++ [r]).length := by simp
  obtain ⟨p, c, e, k1, k2, k3, k4, k5⟩ := h.own.cut (show (R ++ [r]).length = A.length + 1 by rw [List.length_append, h.hl]; rfl)
  have ho := h.own
  rw [e] at ho
  obtain ⟨g, eg, hn, hB, hg, hc, hf, hs⟩ := ho.at hk
  have eR : (R ++ [r])[R.length] = r := by rw [List.getElem_append_right (Nat.le_refl _)]; simp
  rw [eR] at hc hs
  have hk10 : SSc.k = 10 := rfl
  rw [h.hl, hk10] at hc hs
  refine ⟨g, c, by rw [e, eg], hB, hg, by unfold maxLen at k4; omega, ⟨hc 0 _ rfl, hc 1 _ rfl, hc 2 _ rfl, hc 3 _ rfl, hc 4 _ rfl, hc 5 _ rfl, hc 6 _ rfl, hc 7 _ rfl, hc 8 _ rfl, hc 9 _ rfl⟩, hf, fun i u r' hi hr => ?_⟩
  have := hs i u r' hi hr
  rw [e]
  have e3 : (R ++ [r]).set R.length r' = R ++ [r'] := by rw [List.set_append_right _ _ (Nat.le_refl _)]; simp
  rw [h.hl] at e3
  rw [e3] at this
  exact this

theorem setCell_far (w : World) {g b : Nat} (h : b ≠ g) (i : Nat) (u : Value) : (w.setCell ⟨g, i, none⟩ u).heap[b]? = w.heap[b]? := by
  simp [World.setCell, Array.getElem?_modify, Ne.symm h]
theorem setCell_sz (w : World) (a : Addr) (u : Value) : (w.setCell a u).heap.size = w.heap.size := by simp [World.setCell]

/-- One cell of the last row is written. -/
theorem BR.put {B d : Nat} {wr : World} {v : Value} {A : List Sch} {R : List RSx} {r r' : RSx} {lb : Option Nat} (h : BR B d wr v A R r lb) {g c : Nat} (hv : v = .slice (some ⟨g, 0, none⟩) (A.length + 1) c) {i : Nat} {u : Value} (hi : i < 10) (hr : sCells r' = (sCells r).set i u) :
    BR B d (wr.setCell ⟨g, A.length * 10 + i, none⟩ u) v A R r' lb := by
  obtain ⟨g', c', e, -, -, -, -, -, hs⟩ := h.at
  rw [hv] at e
  simp only [Value.slice.injEq, Option.some.injEq, Addr.mk.injEq, and_true] at e
  obtain ⟨rfl, -⟩ := e
  refine ⟨h.hl, hs i u r' hi hr, fun k a b => (h.init k a b).change (Nat.le_of_eq (setCell_sz _ _ _).symm) fun b q hl => ⟨setCell_far _ (fun e => q.2.1 (by rw [hv, e]; rfl)) _ _, q⟩, h.apart⟩

theorem Row1.put {B d g : Nat} {wr : World} {v : Value} {lb : Option Nat} {r : RSx} {s : Sch} (h : Row1 (Qx B v lb) wr B d lb r s) (hg : v.ownBlock = some g) (hap : ∀ b, lb = some b → v.ownBlock ≠ some b) (i : Nat) (u : Value) : Row1 (Qx B v lb) (wr.setCell ⟨g, i, none⟩ u) B d lb r s :=
  ⟨h.num, h.nm, h.t.change (Nat.le_of_eq (setCell_sz _ _ _).symm) fun b q _ => ⟨setCell_far _ (fun e => q.2.1 (by rw [hg, e])) _ _, q⟩,
    h.br.blocks fun b e _ _ => setCell_far _ (fun e2 => hap b (h.bk ▸ e) (by rw [hg, e2])) _ _, h.bn, h.bk, h.least, h.ex, h.needs⟩

theorem setCell_below (w : World) (g i : Nat) (u : Value) {B : Nat} (h : B ≤ g) : Below B w (w.setCell ⟨g, i, none⟩ u) := (Below.refl _ _).setCell h _

/-- The condition is written. -/
theorem Bld.setCond {B : Nat} {wr w5 : World} {v : Value} {A : List Sch} {s : Sch} (h : Bld B wr v A s) (hb : Below wr.heap.size wr w5) {d' : Nat} {row : RT} {t : Tm} (ht : TV (NewQ wr.heap.size) w5 d' row t) {g c : Nat} (hv : v = .slice (some ⟨g, 0, none⟩) (A.length + 1) c) :
    Bld B ((((w5.setCell ⟨g, A.length * 10 + 2, none⟩ (.int .i64 row.op)).setCell ⟨g, A.length * 10 + 3, none⟩ (.int .i64 row.num)).setCell ⟨g, A.length * 10 + 4, none⟩ (.int .i64 row.more)).setCell ⟨g, A.length * 10 + 5, none⟩ (.slice row.p row.n row.c)) v A { s with cond := t } := by
  obtain ⟨d1, R1, r1, lb1, h11, h21⟩ := h
  have hgb : v.ownBlock = some g := by rw [hv]; rfl
  have hgl := h11.own.lt hgb
  have key5 : ∀ b, Qx B v lb1 b → b < wr.heap.size → w5.heap[b]? = wr.heap[b]? ∧ Qx B v lb1 b := fun b q hl => ⟨hb.block b hl, q⟩
  have h1 : BR B d1 w5 v A R1 r1 lb1 := ⟨h11.hl, h11.own.below hb, fun k a b => (h11.init k a b).change hb.size key5, h11.apart⟩
  have h2 : Row1 (Qx B v lb1) w5 B d1 lb1 r1 s := ⟨h21.num, h21.nm, h21.t.change hb.size key5, h21.br.below hb, h21.bn, h21.bk, h21.least, h21.ex, h21.needs⟩
  have hlb : ∀ b, lb1 = some b → b < wr.heap.size := fun b e => (h21.br.lt (h21.bk.trans e)).2
  obtain ⟨num, nm, rt, bp, bn, bc, least, ex, needs⟩ := r1
  have p1 := h1.put hv (i := 2) (u := .int .i64 row.op) (r' := ⟨num, nm, ⟨row.op, rt.num, rt.more, rt.p, rt.n, rt.c⟩, bp, bn, bc, least, ex, needs⟩) (by omega) rfl
  have p2 := p1.put hv (i := 3) (u := .int .i64 row.num) (r' := ⟨num, nm, ⟨row.op, row.num, rt.more, rt.p, rt.n, rt.c⟩, bp, bn, bc, least, ex, needs⟩) (by omega) rfl
  have p3 := p2.put hv (i := 4) (u := .int .i64 row.more) (r' := ⟨num, nm, ⟨row.op, row.num, row.more, rt.p, rt.n, rt.c⟩, bp, bn, bc, least, ex, needs⟩) (by omega) rfl
  have p4 := p3.put hv (i := 5) (u := .slice row.p row.n row.c) (r' := ⟨num, nm, row, bp, bn, bc, least, ex, needs⟩) (by omega) rfl
  have q4 := (((h2.put hgb h1.apart (A.length * 10 + 2) (.int .i64 row.op)).put hgb h1.apart (A.length * 10 + 3) (.int .i64 row.num)).put hgb h1.apart (A.length * 10 + 4) (.int .i64 row.more)).put hgb h1.apart (A.length * 10 + 5) (.slice row.p row.n row.c)
  have far : ∀ b, b ≠ g → ((((w5.setCell ⟨g, A.length * 10 + 2, none⟩ (.int .i64 row.op)).setCell ⟨g, A.length * 10 + 3, none⟩ (.int .i64 row.num)).setCell ⟨g, A.length * 10 + 4, none⟩ (.int .i64 row.more)).setCell ⟨g, A.length * 10 + 5, none⟩ (.slice row.p row.n row.c)).heap[b]? = w5.heap[b]? := fun b hn => by
    rw [setCell_far _ hn, setCell_far _ hn, setCell_far _ hn, setCell_far _ hn]
  have sz : ((((w5.setCell ⟨g, A.length * 10 + 2, none⟩ (.int .i64 row.op)).setCell ⟨g, A.length * 10 + 3, none⟩ (.int .i64 row.num)).setCell ⟨g, A.length * 10 + 4, none⟩ (.int .i64 row.more)).setCell ⟨g, A.length * 10 + 5, none⟩ (.slice row.p row.n row.c)).heap.size = w5.heap.size := by
    rw [setCell_sz, setCell_sz, setCell_sz, setCell_sz]
  have t4 : TV (Qx B v lb1) _ d' row t := ht.change (Nat.le_of_eq sz.symm) fun b q _ => ⟨far b (by unfold NewQ at q; omega), by unfold NewQ at q; omega, fun e => by rw [hgb] at e; injection e with e; unfold NewQ at q; omega, fun e => by have := hlb b e; unfold NewQ at q; omega⟩
  refine ⟨max d1 d', R1, _, lb1, ⟨p4.hl, p4.own, fun k a b => (p4.init k a b).deep (Nat.le_max_left _ _), p4.apart⟩, ⟨q4.num, q4.nm, t4.deep (Nat.le_max_right _ _), q4.br, q4.bn, q4.bk, q4.least, q4.ex, q4.needs⟩⟩

/-- The exclusions are written. -/
theorem Bld.setEx {B : Nat} {wr : World} {v : Value} {A : List Sch} {s : Sch} (h : Bld B wr v A s) (x : Int) {g c : Nat} (hv : v = .slice (some ⟨g, 0, none⟩) (A.length + 1) c) :
    Bld B (wr.setCell ⟨g, A.length * 10 + 8, none⟩ (.int .i64 x)) v A { s with ex := x } := by
  obtain ⟨d1, R1, r1, lb1, h1, h2⟩ := h
  have hgb : v.ownBlock = some g := by rw [hv]; rfl
  obtain ⟨num, nm, rt, bp, bn, bc, least, ex, needs⟩ := r1
  have p1 := h1.put hv (i := 8) (u := .int .i64 x) (r' := ⟨num, nm, rt, bp, bn, bc, least, x, needs⟩) (by omega) rfl
  have q1 := h2.put hgb h1.apart (A.length * 10 + 8) (.int .i64 x)
  exact ⟨d1, R1, _, lb1, p1, ⟨q1.num, q1.nm, q1.t, q1.br, q1.bn, q1.bk, q1.least, rfl, q1.needs⟩⟩

/-- The last brackets. -/
theorem Bld.brackets {B : Nat} {wr : World} {v : Value} {A : List Sch} {s : Sch} (h : Bld B wr v A s) {g c : Nat} (hv : v = .slice (some ⟨g, 0, none⟩) (A.length + 1) c) :
    ∃ bp bc, wr.cell? ⟨g, A.length * 10 + 6, none⟩ = some (.slice bp s.br.length bc) ∧ OwnR SBk wr 34 B (.slice bp s.br.length bc) s.br ∧ (Value.slice bp s.br.length bc).ownBlock ≠ some g ∧
      ∀ (w5 w6 : World) (G : Nat) (p : Option Addr) (n cc : Nat) (b : Brk), Below wr.heap.size wr w5 → w5.heap.size ≤ G → OwnR SBk w6 34 B (.slice p n cc) (s.br ++ [b]) → n = s.br.length + 1 → Appends w5 w6 B G (.slice bp s.br.length bc) (.slice p n cc) →
        Bld B (w6.setCell ⟨g, A.length * 10 + 6, none⟩ (.slice p n cc)) v A { s with br := s.br ++ [b] } := by
  obtain ⟨d1, R1, r1, lb1, h1, h2⟩ := h
  have hgb : v.ownBlock = some g := by rw [hv]; rfl
  have hgl := h1.own.lt hgb
  obtain ⟨g', c', e, -, -, -, hC, -, -⟩ := h1.at
  rw [hv] at e
  simp only [Value.slice.injEq, Option.some.injEq, Addr.mk.injEq, and_true] at e
  obtain ⟨rfl, -⟩ := e
  have hc6 := hC.c6
  rw [h2.bn] at hc6
  have hbr := h2.br
  rw [h2.bn] at hbr
  have hbk : (Value.slice r1.bp s.br.length r1.bc).ownBlock = lb1 := by rw [← h2.bn]; exact h2.bk
  refine ⟨r1.bp, r1.bc, hc6, hbr, fun e => h1.apart g (hbk.symm.trans e) hgb, fun w5 w6 G p n cc b hb hG hO hn hap => ?_⟩
  have key : ∀ b, B ≤ b → b < wr.heap.size → lb1 ≠ some b → w6.heap[b]? = wr.heap[b]? := fun b _ hl hn => (hap.far b (Nat.lt_of_lt_of_le hl hb.size) (by rw [hbk]; exact hn)).trans (hb.block b hl)
  have hlb' : ∀ b, b < wr.heap.size → lb1 ≠ some b → (Value.slice p n cc).ownBlock ≠ some b := fun b hl hn => hap.apart hG (Nat.lt_of_lt_of_le hl hb.size) (by rw [hbk]; exact hn)
  have hsz : wr.heap.size ≤ w6.heap.size := Nat.le_trans hb.size hap.size
  have kq : ∀ b, Qx B v lb1 b → b < wr.heap.size → w6.heap[b]? = wr.heap[b]? ∧ Qx B v (Value.slice p n cc).ownBlock b := fun b q hl => ⟨key b q.1 hl q.2.2, q.1, q.2.1, hlb' b hl q.2.2⟩
  have hglb : lb1 ≠ some g := fun e => h1.apart g e hgb
  have h1' : BR B d1 w6 v A R1 r1 (Value.slice p n cc).ownBlock := ⟨h1.hl, h1.own.blocks fun g2 e h3 h4 => key g2 h3 h4 (by rw [hgb] at e; injection e with e; rw [← e]; exact hglb), fun k a b => (h1.init k a b).change hsz kq, fun b e e2 => by
    rw [hgb] at e2
    injection e2 with e2
    exact hlb' g hgl.2 hglb (by rw [e2]; exact e)⟩
  obtain ⟨num, nm, rt, bp, bn, bc, least, ex, needs⟩ := r1
  have p1 := h1'.put hv (i := 6) (u := .slice p n cc) (r' := ⟨num, nm, rt, p, n, cc, least, ex, needs⟩) (by omega) rfl
  have hne : ∀ b, (Value.slice p n cc).ownBlock = some b → b ≠ g := fun b e e2 => h1'.apart b e (by rw [hgb, e2])
  refine ⟨d1, R1, _, _, p1, ⟨h2.num, h2.nm, (h2.t.change hsz kq).change (Nat.le_of_eq (setCell_sz _ _ _).symm) fun b q _ => ⟨setCell_far _ (fun e => q.2.1 (by rw [hgb, e])) _ _, q⟩, hO.blocks fun b e _ _ => setCell_far _ (hne b e) _ _, by simp only [List.length_append, List.length_cons, List.length_nil]; omega, rfl, h2.least, h2.ex, h2.needs⟩⟩

end Go.Proofs.YtflcdkibjakciaaGreatDoor

namespace Go.Proofs.YtflcdkibjakciaaGreatDoor
namespace Cr
open Go.Lib

/-- The crop of a line, if it is cErr. -/
def lineC (w : List ByteArray) : Option Crp :=
  match w with
  | [a, b, f, m] => if a.data.toList = [99, 114, 111, 112] ∧ Wo.nameB b.data.toList = true ∧ Wo.numB f.data.toList 0 40 = true then (unm m.data.toList).map fun (k : Nat) => (⟨b, Wo.numV f.data.toList 0 40, (k : Int)⟩ : Crp) else none
  | _ => none

/-- c in its place. -/
def ins (c : Crp) : List Crp → List Crp
  | [] => [c]
  | x :: r => if lt x.nm c.nm = true then x :: ins c r else c :: x :: r

def has (L : List Crp) (nm : ByteArray) : Bool := L.any fun c => c.nm.toList == nm.toList

theorem has_iff (L : List Crp) (nm : ByteArray) : has L nm = true ↔ ∃ c ∈ L, c.nm = nm := by
  unfold has
  rw [List.any_eq_true]
  constructor
  · rintro ⟨c, hc, e⟩
    exact ⟨c, hc, ba_ext (by rw [← ByteArray.toList_eq, ← ByteArray.toList_eq]; simpa using e)⟩
  · rintro ⟨c, hc, rfl⟩
    exact ⟨c, hc, by simp⟩

/-- The catalogue of lines, each crop put in its place: what was read, the line, the error. -/
def prsA : List Crp → Nat → List (List ByteArray) → List Crp × Int × Int
  | acc, _, [] => (acc, 0, 0)
  | acc, i, w :: r =>
    if w = [] then prsA acc (i + 1) r else
    match lineC w with
    | none => ([], (i : Int) + 1, 4)
    | some c => if has acc c.nm = true then ([], (i : Int) + 1, 6) else if acc.length = 40 then ([], (i : Int) + 1, 1) else prsA (ins c acc) (i + 1) r

/-- .. each crop put behind the others. -/
def prsB : List Crp → Nat → List (List ByteArray) → List Crp × Int × Int
  | acc, _, [] => (acc, 0, 0)
  | acc, i, w :: r =>
    if w = [] then prsB acc (i + 1) r else
    match lineC w with
    | none => ([], (i : Int) + 1, 4)
    | some c => if has acc c.nm = true then ([], (i : Int) + 1, 6) else if acc.length = 40 then ([], (i : Int) + 1, 1) else prsB (acc ++ [c]) (i + 1) r

/-- Strictly ascending names. -/
def Asc (L : List Crp) : Prop := L.Pairwise fun a b => lt a.nm b.nm = true

theorem ins_perm (c : Crp) : ∀ L, (ins c L).Perm (c :: L)
  | [] => List.Perm.refl _
  | x :: r => by
    rw [ins]
    split
    · exact ((ins_perm c r).cons x).trans (List.Perm.swap c x r)
    · exact List.Perm.refl _

theorem ins_asc {c : Crp} : ∀ {L : List Crp}, Asc L → (∀ x ∈ L, x.nm ≠ c.nm) → Asc (ins c L)
  | [], _, _ => List.pairwise_singleton _ _
  | x :: r, h, hn => by
    have h' := List.pairwise_cons.1 h
    rw [ins]
    split
    · rename_i hlt
      refine List.pairwise_cons.2 ⟨fun y hy => ?_, ins_asc h'.2 fun y hy => hn y (List.mem_cons_of_mem _ hy)⟩
      rcases List.mem_cons.1 ((ins_perm c r).mem_iff.1 hy) with rfl | hy
      · exact hlt
      · exact h'.1 y hy
    · rename_i hnl
      have hcx : lt c.nm x.nm = true := by
        cases k : lt c.nm x.nm with
        | true => rfl
        | false => exact absurd (lt_total (by simpa using hnl) k) (hn x List.mem_cons_self)
      refine List.pairwise_cons.2 ⟨fun y hy => ?_, h⟩
      rcases List.mem_cons.1 hy with rfl | hy
      · exact hcx
      · exact lt_trans hcx (h'.1 y hy)

/-- Ascending lists of the same crops are one. -/
theorem asc_unique : ∀ {L M : List Crp}, Asc L → Asc M → L.Perm M → L = M
  | [], M, _, _, h => (List.Perm.nil_eq h)
  | x :: L, [], _, _, h => by have := h.length_eq; simp at this
  | x :: L, y :: M, hL, hM, h => by
    have h1 := List.pairwise_cons.1 hL
    have h2 := List.pairwise_cons.1 hM
    have e : x = y := by
      have hx : x ∈ y :: M := h.mem_iff.1 List.mem_cons_self
      have hy : y ∈ x :: L := h.mem_iff.2 List.mem_cons_self
      rcases List.mem_cons.1 hx with e | hx
      · exact e
      rcases List.mem_cons.1 hy with e | hy
      · exact e.symm
      · have a1 := h2.1 x hx
        have a2 := h1.1 y hy
        rw [lt_asymm a1] at a2; cases a2
    subst e
    rw [asc_unique h1.2 h2.2 ((List.perm_cons x).1 h)]

theorem has_perm {L M : List Crp} (h : L.Perm M) (nm : ByteArray) : has L nm = has M nm := by
  have : has L nm = true ↔ has M nm = true := by
    rw [has_iff, has_iff]
    constructor
    · rintro ⟨c, hc, e⟩; exact ⟨c, h.mem_iff.1 hc, e⟩
    · rintro ⟨c, hc, e⟩; exact ⟨c, h.mem_iff.2 hc, e⟩
  cases k : has M nm with
  | true => exact this.2 k
  | false =>
    cases j : has L nm with
    | false => rfl
    | true => rw [this.1 j] at k; cases k

/-- Both ways come to the same: the first is ascending, and is the second cErr sorted. -/
theorem prs_same : ∀ (w : List (List ByteArray)) (A B : List Crp) (i : Nat), Asc A → A.Perm B → (prsA A i w).2 = (prsB B i w).2 ∧ Asc (prsA A i w).1 ∧ (prsA A i w).1.Perm (prsB B i w).1
  | [], A, B, i, hA, hP => ⟨rfl, hA, hP⟩
  | w :: r, A, B, i, hA, hP => by
    rw [prsA, prsB]
    by_cases h0 : w = []
    · rw [if_pos h0, if_pos h0]; exact prs_same r A B (i + 1) hA hP
    rw [if_neg h0, if_neg h0]
    cases hl : lineC w with
    | none => exact ⟨rfl, List.Pairwise.nil, List.Perm.refl _⟩
    | some c =>
      simp only
      rw [has_perm hP, hP.length_eq]
      by_cases h1 : has B c.nm = true
      · rw [if_pos h1, if_pos h1]; exact ⟨rfl, List.Pairwise.nil, List.Perm.refl _⟩
      rw [if_neg h1, if_neg h1]
      by_cases h2 : B.length = 40
      · rw [if_pos h2, if_pos h2]; exact ⟨rfl, List.Pairwise.nil, List.Perm.refl _⟩
      rw [if_neg h2, if_neg h2]
      refine prs_same r _ _ (i + 1) (ins_asc hA fun x hx e => h1 ((has_iff B c.nm).2 ⟨x, hP.mem_iff.1 hx, e⟩)) ?_
      exact (ins_perm c A).trans ((List.perm_append_comm (l₁ := [c]) (l₂ := B)).symm.symm.trans (List.Perm.refl _) |> fun h => (hP.cons c).trans h)

/-- Crops of lines: distinct names. -/
def Dist (L : List Crp) : Prop := ∀ a ∈ L, ∀ b ∈ L, a.nm = b.nm → a = b

theorem asc_dist : ∀ {L : List Crp}, Asc L → Dist L
  | [], _ => fun a h => by cases h
  | x :: L, h => by
    have h1 := List.pairwise_cons.1 h
    intro a ha b hb e
    rcases List.mem_cons.1 ha with e1 | h2
    · rcases List.mem_cons.1 hb with e3 | h4
      · rw [e1, e3]
      · have := h1.1 b h4; rw [← e1, e, lt_irrefl] at this; cases this
    · rcases List.mem_cons.1 hb with e3 | h4
      · have := h1.1 a h2; rw [← e3, ← e, lt_irrefl] at this; cases this
      · exact asc_dist h1.2 a h2 b h4 e

end Cr
end Go.Proofs.YtflcdkibjakciaaGreatDoor

namespace Go.Proofs.YtflcdkibjakciaaGreatDoor
namespace Wo
open Go.Lib

/-- What stands between blanks. -/
def wrd (l : List UInt8) : List (List UInt8) := (pcs 32 [] l).filter (· ≠ [])

theorem wds_wrd (l : List UInt8) : wds l = wrd (l.takeWhile (· != 35)) := rfl

theorem wrd_nil : wrd [] = [] := by simp [wrd, pcs]

theorem wrd_blank (l : List UInt8) : wrd (32 :: l) = wrd l := by
  unfold wrd
  rw [pcs, if_pos rfl, List.filter_cons]
  simp

theorem wrd_blanks (n : Nat) (l : List UInt8) : wrd (List.replicate n 32 ++ l) = wrd l := by
  induction n with
  | zero => rfl
  | succ n ih => rw [List.replicate_succ, List.cons_append, wrd_blank, ih]

theorem wrd_word (x l : List UInt8) (hx : x ≠ []) (h : ∀ c ∈ x, c ≠ 32) : wrd (x ++ 32 :: l) = x :: wrd l := by
  unfold wrd
  rw [pcs_hit 32 x l [] h, List.filter_cons, List.nil_append, if_pos (by simpa using hx)]

theorem wrd_one (x : List UInt8) (hx : x ≠ []) (h : ∀ c ∈ x, c ≠ 32) : wrd x = [x] := by
  unfold wrd
  rw [pcs_none 32 x [] h, List.nil_append, List.filter_cons, if_pos (by simpa using hx)]
  rfl

theorem word_byte {x : List UInt8} (h : wordB x = true) : x ≠ [] ∧ ∀ c ∈ x, c ≠ 32 ∧ c ≠ 10 ∧ c ≠ 35 ∧ plainB c = true := by
  simp only [wordB, Bool.and_eq_true, Bool.not_eq_true', List.isEmpty_eq_false_iff, List.all_eq_true, decide_eq_true_eq] at h
  refine ⟨h.1, fun c hc => ?_⟩
  obtain ⟨⟨h1, h2⟩, h3⟩ := h.2 c hc
  refine ⟨?_, ?_, ?_, ?_⟩
  · rintro rfl; exact absurd h1 (by decide)
  · rintro rfl; exact absurd h1 (by decide)
  · rintro rfl; simp at h3
  · simp only [plainB, Bool.or_eq_true, Bool.and_eq_true, decide_eq_true_eq]; right; omega

theorem join_two (x y : List UInt8) (r : List (List UInt8)) (sep : List UInt8) : join (x :: y :: r) sep = x ++ sep ++ join (y :: r) sep := by
  rw [join_cons, join_cons]
  simp [joinTail, List.append_assoc]

/-- Words with some blanks between, and some behind. -/
theorem wrd_join (n m : Nat) (hn : 1 ≤ n) : ∀ ws : List (List UInt8), (∀ x ∈ ws, wordB x = true) → wrd (join ws (List.replicate n 32) ++ List.replicate m 32) = ws
  | [], _ => by
    have := wrd_blanks m []
    rw [List.append_nil] at this
    rw [join_nil, List.nil_append, this, wrd_nil]
  | [x], h => by
    have hx := word_byte (h x List.mem_cons_self)
    rw [join_one]
    cases m with
    | zero => rw [List.replicate_zero, List.append_nil, wrd_one x hx.1 fun c hc => (hx.2 c hc).1]
    | succ m =>
      have := wrd_blanks m []
      rw [List.append_nil] at this
      rw [List.replicate_succ, wrd_word x _ hx.1 (fun c hc => (hx.2 c hc).1), this, wrd_nil]
  | x :: y :: r, h => by
    have hx := word_byte (h x List.mem_cons_self)
    have ih := wrd_join n m hn (y :: r) fun z hz => h z (List.mem_cons_of_mem _ hz)
    obtain ⟨k, rfl⟩ : ∃ k, n = k + 1 := ⟨n - 1, by omega⟩
    rw [join_two, List.append_assoc, List.append_assoc]
    have e : List.replicate (k + 1) (32 : UInt8) ++ (join (y :: r) (List.replicate (k + 1) 32) ++ List.replicate m 32) = 32 :: (List.replicate k 32 ++ (join (y :: r) (List.replicate (k + 1) 32) ++ List.replicate m 32)) := rfl
    rw [e, wrd_word x _ hx.1 (fun c hc => (hx.2 c hc).1), wrd_blanks, ih]

theorem join_mem {p : UInt8 → Prop} (sep : List UInt8) (hs : ∀ c ∈ sep, p c) : ∀ ws : List (List UInt8), (∀ x ∈ ws, ∀ c ∈ x, p c) → ∀ c ∈ join ws sep, p c
  | [], _ => by rw [join_nil]; simp
  | [x], h => by rw [join_one]; exact h x List.mem_cons_self
  | x :: y :: r, h => by
    rw [join_two]
    intro c hc
    rcases List.mem_append.1 hc with hc | hc
    · rcases List.mem_append.1 hc with hc | hc
      · exact h x List.mem_cons_self c hc
      · exact hs c hc
    · exact join_mem sep hs (y :: r) (fun z hz => h z (List.mem_cons_of_mem _ hz)) c hc

theorem takeWhile_all {l : List UInt8} (h : ∀ c ∈ l, c ≠ 35) : l.takeWhile (· != 35) = l := by
  have := List.takeWhile_append_of_pos (p := (· != 35)) (l₁ := l) (l₂ := []) (fun x hx => by simpa using h x hx)
  simpa using this

theorem takeWhile_hash {l r : List UInt8} (h : ∀ c ∈ l, c ≠ 35) : (l ++ 35 :: r).takeWhile (· != 35) = l := by
  rw [List.takeWhile_append_of_pos (fun x hx => by simpa using h x hx)]
  simp

/-- A written line is read. -/
theorem wds_line {ws : List (List UInt8)} (h : ∀ x ∈ ws, wordB x = true) : wds (join ws [32]) = ws := by
  have h35 : ∀ c ∈ join ws [32], c ≠ 35 := join_mem [32] (by intro c hc; simp at hc; subst hc; decide) ws (fun x hx c hc => ((word_byte (h x hx)).2 c hc).2.2.1)
  rw [wds_wrd, takeWhile_all h35]
  have := wrd_join 1 0 (Nat.le_refl _) ws h
  simpa using this

theorem lns_text : ∀ LL : List (List UInt8), (∀ l ∈ LL, ∀ c ∈ l, c ≠ 10) → lns (LL.flatMap fun l => l ++ [10]) = LL
  | [], _ => rfl
  | l :: LL, h => by
    rw [List.flatMap_cons, List.append_assoc, List.singleton_append, lns_hit (h l List.mem_cons_self), lns_text LL fun x hx => h x (List.mem_cons_of_mem _ hx)]

theorem count_text : ∀ LL : List (List UInt8), (∀ l ∈ LL, ∀ c ∈ l, c ≠ 10) → (LL.flatMap fun l => l ++ [10]).count 10 = LL.length
  | [], _ => rfl
  | l :: LL, h => by
    rw [List.flatMap_cons, List.count_append, List.count_append, count_text LL fun x hx => h x (List.mem_cons_of_mem _ hx)]
    have : l.count 10 = 0 := List.count_eq_zero.2 fun hm => h l List.mem_cons_self 10 hm rfl
    rw [this]
    simp
    omega

/-- Whatever lines of plain bytes within the limits are a text. -/
theorem sErr_text {LL : List (List UInt8)} (h10 : ∀ l ∈ LL, ∀ c ∈ l, c ≠ 10) (hp : ∀ l ∈ LL, ∀ c ∈ l, plainB c = true) (h4 : LL.length ≤ 400) (hl : (LL.flatMap fun l => l ++ [10]).length ≤ 16384) : sErr (LL.flatMap fun l => l ++ [10]) = 0 := by
  unfold sErr
  rw [if_neg (by rw [count_text LL h10]; omega), if_neg]
  rintro (⟨h1, h2⟩ | h2)
  · apply h2
    rcases List.eq_nil_or_concat LL with e | ⟨A, l, e⟩
    · rw [e] at h1; exact absurd rfl h1
    · rw [e, List.concat_eq_append, List.flatMap_append]
      simp
  · have : (LL.flatMap fun l => l ++ [10]).all plainB = true := by
      rw [List.all_eq_true]
      intro c hc
      obtain ⟨l, hl, hc⟩ := List.mem_flatMap.1 hc
      rcases List.mem_append.1 hc with hc | hc
      · exact hp l hl c hc
      · simp at hc; subst hc; decide
    rw [this] at h2; cases h2

theorem plain_of_word {x : List UInt8} (h : wordB x = true) : ∀ c ∈ x, plainB c = true := fun c hc => ((word_byte h).2 c hc).2.2.2

/-- What was written is read as it was. -/
theorem back {LL : List (List (List UInt8))} (h : ∀ ws ∈ LL, ∀ x ∈ ws, wordB x = true) (h4 : LL.length ≤ 400) (hl : (jText LL).length ≤ 16384) : jErr LL = 0 ∧ jOut LL = jText LL ∧ sErr (jText LL) = 0 ∧ sList (jText LL) = LL := by
  have hall : (LL.all fun ws => ws.all wordB) = true := by
    rw [List.all_eq_true]; intro ws hw; rw [List.all_eq_true]; exact h ws hw
  have e0 : jErr LL = 0 := by unfold jErr; rw [if_neg (by omega), if_neg (by rw [hall]; simp), if_neg (by omega)]
  have et : jText LL = (LL.map fun ws => join ws [32]).flatMap fun l => l ++ [10] := by
    unfold jText; rw [List.flatMap_map]; rfl
  have h10 : ∀ l ∈ LL.map (fun ws => join ws [32]), ∀ c ∈ l, c ≠ 10 := by
    intro l hl
    obtain ⟨ws, hw, rfl⟩ := List.mem_map.1 hl
    exact join_mem [32] (by intro c hc; simp at hc; subst hc; decide) ws (fun x hx c hc => ((word_byte (h ws hw x hx)).2 c hc).2.1)
  have hp : ∀ l ∈ LL.map (fun ws => join ws [32]), ∀ c ∈ l, plainB c = true := by
    intro l hl
    obtain ⟨ws, hw, rfl⟩ := List.mem_map.1 hl
    exact join_mem [32] (by intro c hc; simp at hc; subst hc; decide) ws (fun x hx => plain_of_word (h ws hw x hx))
  have es : sErr (jText LL) = 0 := by
    rw [et] at hl ⊢
    exact sErr_text h10 hp (by rw [List.length_map]; exact h4) hl
  refine ⟨e0, by unfold jOut; rw [if_pos e0], es, ?_⟩
  unfold sList
  rw [if_pos es, et, lns_text _ h10, List.map_map]
  have : ∀ ws ∈ LL, (wds ∘ fun ws => join ws [32]) ws = ws := fun ws hw => wds_line (h ws hw)
  rw [List.map_congr_left this, List.map_id']

end Wo
end Go.Proofs.YtflcdkibjakciaaGreatDoor
