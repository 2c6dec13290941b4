/-
  MERGED (mergek.py): the texts Sr, Bs, Bd, T1, T2, T3.
-/
import Derived.Test.YtflcdkibjakciaaGreatDoorM2
import Derived.Test.YtflcdkibjakciaaGreatDoorM4
import Derived.WalkKit

namespace Go.Proofs.YtflcdkibjakciaaGreatDoor
open Go.RowKit Te Sc

def bCells (b : Brk) : List Value := [.int .i64 b.up, .int .i64 b.rate]
def SBk : Shape Brk := ⟨2, bCells, fun _ => rfl, by decide, fun a u hu => by
  simp only [bCells, List.mem_cons, List.not_mem_nil, or_false] at hu
  rcases hu with rfl | rfl <;> rfl⟩

theorem info_brk : (Tryz.prog.info? 34).map (fun i => (i.zero, i.size, i.bytes)) = some (some (.agg #[.int .i64 0, .int .i64 0]), 2, 16) := by kernel_rfl
theorem el_brk : Elem SBk Tryz.prog 34 30 16 := by
  obtain ⟨i0, h1, h2, h3, h4⟩ := info_parts info_brk
  exact ⟨⟨i0, _, h1, h2, h3, h4, rfl⟩, Tryz.underlying30⟩

/-- Bracket k lies there. -/
theorem SBk_at {w : World} {p : Option Addr} {L : List Brk} (h : Recs SBk w p L) {k : Nat} (hk : k < L.length) :
    ∃ b off x, p = some ⟨b, off, none⟩ ∧ b < w.heap.size ∧ w.cell? ⟨b, off + k * 2, none⟩ = some (.int .i64 x.up) ∧ w.cell? ⟨b, off + k * 2 + 1, none⟩ = some (.int .i64 x.rate) ∧ Hid (L[k] = x) := by
  obtain ⟨b, off, hp, hb, hc⟩ := h.at hk
  exact ⟨b, off, _, hp, hb, hc 0 _ rfl, hc 1 _ rfl, rfl⟩

structure RSx where
  num : Int
  nm : ByteArray
  t : RT
  bp : Option Addr
  bn : Nat
  bc : Nat
  least : Int
  ex : Int
  needs : Bool

def sCells (r : RSx) : List Value := [.int .i64 r.num, .string r.nm, .int .i64 r.t.op, .int .i64 r.t.num, .int .i64 r.t.more, .slice r.t.p r.t.n r.t.c, .slice r.bp r.bn r.bc, .int .i64 r.least, .int .i64 r.ex, .bool r.needs]
def SSc : Shape RSx := ⟨10, sCells, fun _ => rfl, by decide, fun a u hu => by
  simp only [sCells, List.mem_cons, List.not_mem_nil, or_false] at hu
  rcases hu with rfl | rfl | rfl | rfl | rfl | rfl | rfl | rfl | rfl | rfl <;> rfl⟩

theorem info_sch : (Tryz.prog.info? 32).map (fun i => (i.zero, i.size, i.bytes)) = some (some (.agg #[.int .i64 0, .string ByteArray.empty, .int .i64 0, .int .i64 0, .int .i64 0, .slice none 0 0, .slice none 0 0, .int .i64 0, .int .i64 0, .bool false]), 10, 120) := by kernel_rfl
theorem el_sch : Elem SSc Tryz.prog 32 23 120 := by
  obtain ⟨i0, h1, h2, h3, h4⟩ := info_parts info_sch
  exact ⟨⟨i0, _, h1, h2, h3, h4, rfl⟩, Tryz.underlying23⟩

/-- The row r is that of the scheme s. -/
structure SV (Q : Nat → Prop) (w : World) (d : Nat) (r : RSx) (s : Sch) : Prop where
  num : r.num = s.num
  nm : r.nm = s.nm
  t : TV Q w d r.t s.cond
  br : Recs SBk w r.bp s.br
  bn : r.bn = s.br.length
  bc : r.bn ≤ r.bc
  bz : r.bp = none → r.bc = 0
  bq : ∀ a, r.bp = some a → s.br = [] ∨ Q a.block
  least : r.least = s.least
  ex : r.ex = s.ex
  needs : r.needs = s.needs

theorem SV.change {Q Q' : Nat → Prop} {w w' : World} {d : Nat} {r : RSx} {s : Sch} (h : SV Q w d r s) (hs : w.heap.size ≤ w'.heap.size) (hb : ∀ b, Q b → b < w.heap.size → w'.heap[b]? = w.heap[b]? ∧ Q' b) : SV Q' w' d r s := by
  have key : ∀ a, r.bp = some a → s.br = [] ∨ (w'.heap[a.block]? = w.heap[a.block]? ∧ Q' a.block) := fun a e => by
    rcases h.bq a e with h1 | h1
    · exact .inl h1
    · by_cases h0 : s.br = []
      · exact .inl h0
      · exact .inr (hb _ h1 (h.br.lt h0 e))
  exact ⟨h.num, h.nm, h.t.change hs hb, h.br.blocks hs fun a e => (key a e).imp id And.left, h.bn, h.bc, h.bz, fun a e => (key a e).imp id And.right, h.least, h.ex, h.needs⟩

theorem SV.below {Q : Nat → Prop} {w w' : World} {d : Nat} {r : RSx} {s : Sch} (h : SV Q w d r s) (hb : Below w.heap.size w w') : SV Q w' d r s := h.change hb.size fun b q hl => ⟨hb.block b hl, q⟩
theorem SV.deep {Q : Nat → Prop} {w : World} {d e : Nat} {r : RSx} {s : Sch} (h : SV Q w d r s) (he : d ≤ e) : SV Q w e r s := ⟨h.num, h.nm, h.t.deep he, h.br, h.bn, h.bc, h.bz, h.bq, h.least, h.ex, h.needs⟩

/-- The slice at address p lists the schemes L. -/
structure SsAt (Q : Nat → Prop) (w : World) (d : Nat) (p : Option Addr) (L : List Sch) : Prop where
  ex : ∃ R : List RSx, R.length = L.length ∧ Recs SSc w p R ∧ ∀ k (h : k < R.length) (h' : k < L.length), SV Q w d R[k] L[k]
  q : ∀ a, p = some a → L = [] ∨ Q a.block

theorem SsAt.nil (Q : Nat → Prop) (w : World) (d : Nat) (p : Option Addr) : SsAt Q w d p [] := ⟨⟨[], rfl, Recs.nil _ _, fun k h => by simp at h⟩, fun _ _ => .inl rfl⟩

theorem SsAt.change {Q Q' : Nat → Prop} {w w' : World} {d : Nat} {p : Option Addr} {L : List Sch} (h : SsAt Q w d p L) (hs : w.heap.size ≤ w'.heap.size) (hb : ∀ b, Q b → b < w.heap.size → w'.heap[b]? = w.heap[b]? ∧ Q' b) : SsAt Q' w' d p L := by
  obtain ⟨⟨R, h1, h2, h3⟩, h4⟩ := h
  have hR : L = [] ↔ R = [] := by rw [← List.length_eq_zero_iff, ← List.length_eq_zero_iff, h1]
  have key : ∀ a, p = some a → L = [] ∨ (w'.heap[a.block]? = w.heap[a.block]? ∧ Q' a.block) := fun a e => by
    rcases h4 a e with h | h
    · exact .inl h
    · by_cases h0 : L = []
      · exact .inl h0
      · exact .inr (hb _ h (h2.lt (fun e => h0 (hR.2 e)) e))
  exact ⟨⟨R, h1, h2.blocks hs fun a e => (key a e).imp hR.1 And.left, fun k a b => (h3 k a b).change hs hb⟩, fun a e => (key a e).imp id And.right⟩

theorem SsAt.below {Q : Nat → Prop} {w w' : World} {d : Nat} {p : Option Addr} {L : List Sch} (h : SsAt Q w d p L) (hb : Below w.heap.size w w') : SsAt Q w' d p L := h.change hb.size fun b q hl => ⟨hb.block b hl, q⟩

theorem SsAt.but {Q : Nat → Prop} {w w' : World} {d t : Nat} {p : Option Addr} {L : List Sch} (h : SsAt Q w d p L) (hb : But t w w') (ht : ∀ b, Q b → b ≠ t) : SsAt Q w' d p L := h.change hb.size fun b q hl => ⟨hb.block b hl (ht b q), q⟩

theorem SsAt.len {Q : Nat → Prop} {w : World} {d : Nat} {p : Option Addr} {L : List Sch} (h : SsAt Q w d p L) : L.length ≤ 9223372036854775807 := by
  obtain ⟨⟨R, h1, h2, -⟩, -⟩ := h
  rw [← h1]; exact h2.len

/-- The ten cells of a row. -/
structure SCells (w : World) (b o : Nat) (r : RSx) : Prop where
  c0 : w.cell? ⟨b, o, none⟩ = some (.int .i64 r.num)
  c1 : w.cell? ⟨b, o + 1, none⟩ = some (.string r.nm)
  c2 : w.cell? ⟨b, o + 2, none⟩ = some (.int .i64 r.t.op)
  c3 : w.cell? ⟨b, o + 3, none⟩ = some (.int .i64 r.t.num)
  c4 : w.cell? ⟨b, o + 4, none⟩ = some (.int .i64 r.t.more)
  c5 : w.cell? ⟨b, o + 5, none⟩ = some (.slice r.t.p r.t.n r.t.c)
  c6 : w.cell? ⟨b, o + 6, none⟩ = some (.slice r.bp r.bn r.bc)
  c7 : w.cell? ⟨b, o + 7, none⟩ = some (.int .i64 r.least)
  c8 : w.cell? ⟨b, o + 8, none⟩ = some (.int .i64 r.ex)
  c9 : w.cell? ⟨b, o + 9, none⟩ = some (.bool r.needs)

theorem SCells.below {w w' : World} {b o B : Nat} {r : RSx} (h : SCells w b o r) (hb : Below B w w') (hB : b < B) : SCells w' b o r :=
  ⟨(hb.cell (p := ⟨b, o, none⟩) hB).trans h.c0, (hb.cell (p := ⟨b, o + 1, none⟩) hB).trans h.c1, (hb.cell (p := ⟨b, o + 2, none⟩) hB).trans h.c2, (hb.cell (p := ⟨b, o + 3, none⟩) hB).trans h.c3, (hb.cell (p := ⟨b, o + 4, none⟩) hB).trans h.c4,
    (hb.cell (p := ⟨b, o + 5, none⟩) hB).trans h.c5, (hb.cell (p := ⟨b, o + 6, none⟩) hB).trans h.c6, (hb.cell (p := ⟨b, o + 7, none⟩) hB).trans h.c7, (hb.cell (p := ⟨b, o + 8, none⟩) hB).trans h.c8, (hb.cell (p := ⟨b, o + 9, none⟩) hB).trans h.c9⟩

theorem SCells.box (w : World) (r : RSx) (T : TypeId) : SCells (w.alloc (.cells #[.int .i64 r.num, .string r.nm, .int .i64 r.t.op, .int .i64 r.t.num, .int .i64 r.t.more, .slice r.t.p r.t.n r.t.c, .slice r.bp r.bn r.bc, .int .i64 r.least, .int .i64 r.ex, .bool r.needs] T)) w.heap.size 0 r :=
  ⟨World.cell?_alloc_new _ _ _ 0, World.cell?_alloc_new _ _ _ 1, World.cell?_alloc_new _ _ _ 2, World.cell?_alloc_new _ _ _ 3, World.cell?_alloc_new _ _ _ 4, World.cell?_alloc_new _ _ _ 5, World.cell?_alloc_new _ _ _ 6, World.cell?_alloc_new _ _ _ 7, World.cell?_alloc_new _ _ _ 8, World.cell?_alloc_new _ _ _ 9⟩

/-- Scheme k. -/
theorem SsAt.at {Q : Nat → Prop} {w : World} {d : Nat} {p : Option Addr} {L : List Sch} (h : SsAt Q w d p L) {k : Nat} (hk : k < L.length) :
    ∃ b off r, p = some ⟨b, off, none⟩ ∧ b < w.heap.size ∧ SCells w b (off + k * 10) r ∧ SV Q w d r L[k] := by
  obtain ⟨⟨R, h1, h2, h3⟩, -⟩ := h
  have hk' : k < R.length := by omega
  obtain ⟨b, off, e, hl, hc⟩ := h2.at hk'
  exact ⟨b, off, R[k], e, hl, ⟨hc 0 _ rfl, hc 1 _ rfl, hc 2 _ rfl, hc 3 _ rfl, hc 4 _ rfl, hc 5 _ rfl, hc 6 _ rfl, hc 7 _ rfl, hc 8 _ rfl, hc 9 _ rfl⟩, h3 k hk' hk⟩

theorem SsAt.take {Q : Nat → Prop} {w : World} {d : Nat} {p : Option Addr} {L : List Sch} (h : SsAt Q w d p L) (m : Nat) : SsAt Q w d p (L.take m) := by
  obtain ⟨⟨R, h1, h2, h3⟩, h4⟩ := h
  refine ⟨⟨R.take m, by rw [List.length_take, List.length_take, h1], h2.take m, fun k a b => ?_⟩, fun a e => ?_⟩
  · rw [List.getElem_take, List.getElem_take]
    exact h3 k _ _
  · rcases h4 a e with h | h
    · exact .inl (by rw [h]; simp)
    · exact .inr h

end Go.Proofs.YtflcdkibjakciaaGreatDoor

namespace Go.Proofs.YtflcdkibjakciaaGreatDoor
open Go.RowKit

theorem bdrew' {B : Nat} {w w1 : World} (h : Below B w.drew w1) : Below B w w1 := ⟨h.os, h.tape, h.output, h.size, h.block⟩

theorem bstep {B : Nat} {w w1 w2 : World} (hs : B ≤ w.heap.size) (h : Below B w w1) (h2 : Below w1.heap.size w1 w2) : Below B w w2 := bnext h (Nat.le_trans hs h.size) h2

theorem balloc {B : Nat} {w w1 : World} (hs : B ≤ w.heap.size) (h : Below B w w1) (o : Obj) : Below B w (w1.alloc o) := h.alloc (Nat.le_trans hs h.size) o

end Go.Proofs.YtflcdkibjakciaaGreatDoor

namespace Go.Proofs.YtflcdkibjakciaaGreatDoor
open Go.RowKit

theorem bd_i32 {n : Int} (h : (Lit.int .i32 n).wf = true) : -2147483648 ≤ n ∧ n ≤ 2147483647 := by simpa [Lit.wf, IntKind.min, IntKind.max, IntKind.signed, IntKind.bits] using h
theorem bd_u16 {n : Int} (h : (Lit.int .u16 n).wf = true) : 0 ≤ n ∧ n ≤ 65535 := by simpa [Lit.wf, IntKind.min, IntKind.max, IntKind.signed, IntKind.bits] using h
theorem bd_u32 {n : Int} (h : (Lit.int .u32 n).wf = true) : 0 ≤ n ∧ n ≤ 4294967295 := by simpa [Lit.wf, IntKind.min, IntKind.max, IntKind.signed, IntKind.bits] using h
theorem bd_u8 {n : Int} (h : (Lit.int .u8 n).wf = true) : 0 ≤ n ∧ n ≤ 255 := by simpa [Lit.wf, IntKind.min, IntKind.max, IntKind.signed, IntKind.bits] using h
theorem bd_i64 {n : Int} (h : (Lit.int .i64 n).wf = true) : -9223372036854775808 ≤ n ∧ n ≤ 9223372036854775807 := by simpa [Lit.wf, IntKind.min, IntKind.max, IntKind.signed, IntKind.bits] using h

end Go.Proofs.YtflcdkibjakciaaGreatDoor

namespace Go.Proofs.YtflcdkibjakciaaGreatDoor
open Go.RowKit Te

def IntG (v : Int) (w : World) (e : Ending) (w' : World) : Prop := e = .returned (.int .i64 v) ∧ Below w.heap.size w w'

/-- How many terms the first kids hold, at most one more than a limit. -/
def cntJ (K : List Tm) (j : Nat) (most : Int) : Int := if 1 + (countL (K.take j) : Int) ≤ most then 1 + (countL (K.take j) : Int) else most + 1
def cntV (t : Tm) (most : Int) : Int := if (count t : Int) ≤ most then (count t : Int) else most + 1

theorem countL_append (A B : List Tm) : countL (A ++ B) = countL A + countL B := by
  induction A with
  | nil => simp [countL]
  | cons a r ih => rw [List.cons_append, countL, countL, ih]; omega

theorem countL_succ (K : List Tm) (j : Nat) (h : j < K.length) : countL (K.take (j + 1)) = countL (K.take j) + count K[j] := by
  rw [List.take_succ_eq_append_getElem h, countL_append, countL, countL]; omega

theorem countL_take (K : List Tm) (j : Nat) : countL (K.take j) ≤ countL K := by
  have := countL_append (K.take j) (K.drop j)
  rw [List.take_append_drop] at this
  omega

theorem count_kids (t : Tm) : count t = 1 + countL t.kids := by cases t; rw [count]; rfl
theorem depth_kids (t : Tm) : depth t = depthL t.kids + 1 := by cases t; rw [depth]; rfl

theorem cntJ_zero (K : List Tm) (most : Int) (h : 0 ≤ most) : cntJ K 0 most = 1 := by
  unfold cntJ; simp only [List.take_zero, countL]; split <;> omega

theorem cntJ_succ (K : List Tm) (j : Nat) (h : j < K.length) (most : Int) (h2 : cntJ K j most ≤ most) : cntJ K j most + cntV K[j] (most - cntJ K j most) = cntJ K (j + 1) most := by
  unfold cntJ cntV at *
  rw [countL_succ K j h]
  have := count_pos K[j]
  split at h2
  · split <;> split <;> omega
  · omega

theorem cntJ_end (t : Tm) (most : Int) : cntJ t.kids t.kids.length most = cntV t most := by
  unfold cntJ cntV; rw [List.take_length, count_kids]; simp

theorem cntJ_over (t : Tm) (j : Nat) (most : Int) (h : most < cntJ t.kids j most) : cntJ t.kids j most = cntV t most := by
  unfold cntJ cntV at *
  rw [count_kids]
  have := countL_take t.kids j
  split at h
  · omega
  · rw [if_neg (by omega), if_neg (by omega)]

theorem cntJ_bd (K : List Tm) (j : Nat) (most : Int) (h : 0 ≤ most) : 1 ≤ cntJ K j most ∧ cntJ K j most ≤ most + 1 := by
  unfold cntJ; split <;> omega

theorem cntV_bd (t : Tm) (most : Int) (h : 0 ≤ most) : 1 ≤ cntV t most ∧ cntV t most ≤ most + 1 := by
  have := count_pos t
  unfold cntV; split <;> omega

set_option maxHeartbeats 4000000 in
theorem count16_any {Q : Nat → Prop} : ∀ (d : Nat) (r : RT) (t : Tm) (most : Int) (w : World), TV Q w d r t → 0 ≤ most → most ≤ 1000000 →
    Calls Tryz.prog 98 #[.agg #[.int .i64 r.op, .int .i64 r.num, .int .i64 r.more, .slice r.p r.n r.c], .int .i64 most] w (IntG (cntV t most) w) := by
  intro d
  induction d using Nat.strongRecOn with
  | _ d ih =>
  intro r t most w h h0 h1
  obtain ⟨ro, rn, rm, rp, rl, rc⟩ := r
  obtain ⟨to, tn, tm, K⟩ := t
  have hat : TmsAt Q w d rp K := h.at_
  have hlen : rl = K.length := h.is.n
  have hn := hat.len
  simp only
  subst hlen
  have HT := Lib.hid hat
  have IH := Lib.hid ih
  have CE := Lib.hid (show cntJ K K.length most = cntV (.mk to tn tm K) most from cntJ_end (.mk to tn tm K) most)
  have CO := Lib.hid (fun j => show most < cntJ K j most → cntJ K j most = cntV (.mk to tn tm K) most from cntJ_over (.mk to tn tm K) j most)
  have CB := Lib.hid (fun j => cntJ_bd K j most h0)
  have CS := Lib.hid (fun j h => cntJ_succ K j h most)
  have CZ := Lib.hid (cntJ_zero K most h0)
  obtain ⟨V, eV⟩ : ∃ V, cntV (.mk to tn tm K) most = V := ⟨_, rfl⟩
  rw [eV] at CE CO ⊢
  clear h ih eV hat
  go_enter Tryz.func98, Tryz.ntmps98
  go_wp2
  go_loopw [5, 11] (fun n i wr => ∃ j : Nat, j ≤ K.length ∧ i = .int .i64 j ∧ n = .int .i64 (cntJ K j most) ∧ Below w.heap.size w wr) (fun _ i _ => K.length - (intOf i).toNat)
  case atStart => exact ⟨0, Nat.zero_le _, rfl, by rw [CZ.out], (Below.refl _ _).alloc (Nat.le_refl _) _⟩
  case round =>
    clear CZ
    obtain ⟨wo, rfl⟩ : ∃ wo : World, wo = wr := ⟨_, rfl⟩
    obtain ⟨j, hj, rfl, rfl, hb⟩ := hrel
    have HB := Lib.hid hb
    have hj0 : (0 : Int) ≤ (j : Int) := Int.natCast_nonneg _
    obtain ⟨b1, b2⟩ := CB.out j
    by_cases hlt : j < K.length
    · have hj1 : (j : Int) < (K.length : Int) := by omega
      obtain ⟨e, b, off, k, rfl, rfl, hbl, hc, hv⟩ := (HT.out.below hb).kid hlt
      have CSj := Lib.hid (CS.out j hlt)
      have COj := Lib.hid (CO.out j)
      obtain ⟨N, eN⟩ : ∃ N, cntJ K j most = N := ⟨_, rfl⟩
      rw [eN] at CSj COj b1 b2 ⊢
      obtain ⟨c0, c1, c2, c3⟩ := hc
      clear eN hb
      have HK := Lib.hid (fun (W : World) (hW : Below wo.heap.size wo W) => IH.out e (by omega) k K[j] (most - N) W (hv.below hW))
      clear hv
      by_cases hm : most < N
      · have HF := Lib.hid (COj.out hm)
        go_wp2
        go_ret
        exact ⟨ret_int HF.out, balloc (Nat.le_refl _) HB.out _⟩
      · have HK2 := Lib.hid (HK.out _ ((Below.refl _ _).alloc (Nat.le_refl _) (.cells #[.int .i64 k.op, .int .i64 k.num, .int .i64 k.more, .slice k.p k.n k.c] 29)) (by omega) (by omega))
        have hvb := cntV_bd K[j] (most - N) (by omega)
        have CSK := Lib.hid (CSj.out (by omega))
        obtain ⟨V2, eV2⟩ : ∃ V2, cntV K[j] (most - N) = V2 := ⟨_, rfl⟩
        rw [eV2] at hvb CSK HK2
        clear eV2 HK
        go_wp2_with (first | (go_at_call 98; (with_reducible refine Calls.mono HK2.out ?_); rintro e w1 ⟨rfl, hb1⟩))
        go_roundw
        case rel => exact ⟨j + 1, by omega, by go_num, by rw [CSK.out], bstep (Nat.le_refl _) (balloc (Nat.le_refl _) HB.out _) hb1⟩
        case measure => simp [intOf]; omega
    · obtain rfl : j = K.length := by omega
      rw [CE.out]
      clear hb b1 b2
      go_wp2
      go_ret
      exact ⟨rfl, HB.out⟩

end Go.Proofs.YtflcdkibjakciaaGreatDoor

namespace Go.Proofs.YtflcdkibjakciaaGreatDoor
open Go.RowKit Te

/-- How many terms: the number itself up to a limit, more than the limit beyond it. -/
def RcOk (lim : Nat) (c : Nat) (n : Int) : Prop := (c ≤ lim → n = (c : Int)) ∧ (lim < c → (lim : Int) < n) ∧ 1 ≤ n ∧ n ≤ (c : Int)
def RcG (lim : Nat) (c : Nat) (w : World) (e : Ending) (w' : World) : Prop := ∃ n : Int, RcOk lim c n ∧ e = .returned (.int .i64 n) ∧ Below w.heap.size w w'

theorem RcOk.step {lim c k : Nat} {n m : Int} (h : RcOk lim c n) (hn : n ≤ lim) (h2 : RcOk lim k m) : RcOk lim (c + k) (n + m) := by
  obtain ⟨a1, a2, a3, a4⟩ := h
  obtain ⟨b1, b2, b3, b4⟩ := h2
  have hc : c ≤ lim := by
    rcases Nat.lt_or_ge lim c with h | h
    · have := a2 h; omega
    · exact h
  have := a1 hc
  refine ⟨fun h => ?_, fun h => ?_, by omega, by omega⟩
  · have := b1 (by omega); omega
  · rcases Nat.lt_or_ge lim k with h3 | h3
    · have := b2 h3; omega
    · have := b1 h3; omega

theorem RcOk.keep {lim c k : Nat} {n : Int} (h : RcOk lim c n) (hn : lim < n) : RcOk lim (c + k) n := by
  obtain ⟨a1, a2, a3, a4⟩ := h
  exact ⟨fun h => by omega, fun _ => hn, a3, by omega⟩

theorem count_cons (to tn tm : Int) (K : List Tm) : count (.mk to tn tm K) = 1 + countL K := by rw [count]
theorem depth_cons (to tn tm : Int) (K : List Tm) : depth (.mk to tn tm K) = depthL K + 1 := by rw [depth]
theorem countL_bd (K : List Tm) (j : Nat) (h : j < K.length) : count K[j] ≤ countL K := countL_mem (List.getElem_mem h)

theorem depthL_append (A B : List Tm) : depthL (A ++ B) = max (depthL A) (depthL B) := by
  induction A with
  | nil => simp [depthL]
  | cons a r ih => rw [List.cons_append, depthL, depthL, ih]; omega

theorem depthL_succ (K : List Tm) (j : Nat) (h : j < K.length) : depthL (K.take (j + 1)) = max (depthL (K.take j)) (depth K[j]) := by
  rw [List.take_succ_eq_append_getElem h, depthL_append, depthL, depthL]; omega

mutual
theorem depth_le_count : ∀ t : Tm, depth t ≤ count t
  | .mk o n m K => by rw [depth, count]; have := depthL_le_count K; omega
theorem depthL_le_count : ∀ K : List Tm, depthL K ≤ countL K
  | [] => by simp [depthL]
  | k :: r => by rw [depthL, countL]; have := depth_le_count k; have := depthL_le_count r; omega
end

set_option maxHeartbeats 4000000 in
theorem count16r_any {Q : Nat → Prop} : ∀ (d : Nat) (r : RT) (t : Tm) (w : World), TV Q w d r t → count t ≤ 1099511627776 →
    Calls Tryz.prog 118 #[.agg #[.int .i64 r.op, .int .i64 r.num, .int .i64 r.more, .slice r.p r.n r.c]] w (RcG 40 (count t) w) := by
  intro d
  induction d using Nat.strongRecOn with
  | _ d ih =>
  intro r t w h hz
  obtain ⟨ro, rn, rm, rp, rl, rc⟩ := r
  obtain ⟨to, tn, tm, K⟩ := t
  have hat : TmsAt Q w d rp K := h.at_
  have hlen : rl = K.length := h.is.n
  have hn := hat.len
  rw [count_cons] at hz ⊢
  simp only
  subst hlen
  have HT := Lib.hid hat
  have IH := Lib.hid ih
  clear h ih hat
  go_enter Tryz.func118, Tryz.ntmps118
  go_wp2
  go_loopw [3, 9] (fun n i wr => ∃ (j : Nat) (N : Int), j ≤ K.length ∧ i = .int .i64 j ∧ n = .int .i64 N ∧ RcOk 40 (1 + countL (K.take j)) N ∧ Below w.heap.size w wr) (fun _ i _ => K.length - (intOf i).toNat)
  case atStart => exact ⟨0, 1, Nat.zero_le _, rfl, rfl, ⟨fun _ => by simp [countL], fun h => by simp [countL] at h, by omega, by simp [countL]⟩, (Below.refl _ _).alloc (Nat.le_refl _) _⟩
  case round =>
    obtain ⟨wo, rfl⟩ : ∃ wo : World, wo = wr := ⟨_, rfl⟩
    obtain ⟨j, N, hj, rfl, rfl, hR, hb⟩ := hrel
    have HB := Lib.hid hb
    have HR := Lib.hid hR
    have hj0 : (0 : Int) ≤ (j : Int) := Int.natCast_nonneg _
    have hct := countL_take K j
    have n1 : 1 ≤ N := hR.2.2.1
    have n2 : N ≤ 1099511627776 := by have := hR.2.2.2; omega
    clear hR
    by_cases hlt : j < K.length
    · have hj1 : (j : Int) < (K.length : Int) := by omega
      obtain ⟨e, b, off, k, rfl, rfl, hbl, hc, hv⟩ := (HT.out.below hb).kid hlt
      obtain ⟨c0, c1, c2, c3⟩ := hc
      have hkb := countL_bd K j hlt
      have CS := Lib.hid (countL_succ K j hlt)
      have HK := Lib.hid (fun (W : World) (hW : Below wo.heap.size wo W) => IH.out e (by omega) k K[j] W (hv.below hW) (by omega))
      clear hv hb
      by_cases hm : N ≤ 40
      · have HK2 := Lib.hid (HK.out _ ((Below.refl _ _).alloc (Nat.le_refl _) (.cells #[.int .i64 k.op, .int .i64 k.num, .int .i64 k.more, .slice k.p k.n k.c] 29)))
        clear HK
        go_wp2_with (first | (go_at_call 118; (with_reducible refine Calls.mono HK2.out ?_); rintro e w1 ⟨M, hM, rfl, hb1⟩; have m1 : 1 ≤ M := hM.2.2.1; have m2 : M ≤ 1099511627776 := (by have := hM.2.2.2; omega); have HM := Lib.hid hM; clear hM))
        go_roundw
        case rel => exact ⟨j + 1, N + M, by omega, by go_num, rfl, by rw [CS.out, ← Nat.add_assoc]; exact HR.out.step (by omega) HM.out, bstep (Nat.le_refl _) (balloc (Nat.le_refl _) HB.out _) hb1⟩
        case measure => simp [intOf]; omega
      · clear HK
        go_wp2
        go_roundw
        case rel => exact ⟨j + 1, N, by omega, by go_num, rfl, by rw [CS.out, ← Nat.add_assoc]; exact HR.out.keep (by omega), balloc (Nat.le_refl _) HB.out _⟩
        case measure => simp [intOf]; omega
    · obtain rfl : j = K.length := by omega
      rw [List.take_length] at HR
      clear hb hct
      go_wp2
      go_ret
      exact ⟨N, HR.out, rfl, HB.out⟩

set_option maxHeartbeats 4000000 in
theorem count17_any {Q : Nat → Prop} : ∀ (d : Nat) (r : RT) (t : Tm) (w : World), TV Q w d r t → count t ≤ 1099511627776 →
    Calls Tryz.prog 16 #[.agg #[.int .i64 r.op, .int .i64 r.num, .int .i64 r.more, .slice r.p r.n r.c]] w (RcG 60 (count t) w) := by
  intro d
  induction d using Nat.strongRecOn with
  | _ d ih =>
  intro r t w h hz
  obtain ⟨ro, rn, rm, rp, rl, rc⟩ := r
  obtain ⟨to, tn, tm, K⟩ := t
  have hat : TmsAt Q w d rp K := h.at_
  have hlen : rl = K.length := h.is.n
  have hn := hat.len
  rw [count_cons] at hz ⊢
  simp only
  subst hlen
  have HT := Lib.hid hat
  have IH := Lib.hid ih
  clear h ih hat
  go_enter Tryz.func16, Tryz.ntmps16
  go_wp2
  go_loopw [3, 9] (fun n i wr => ∃ (j : Nat) (N : Int), j ≤ K.length ∧ i = .int .i64 j ∧ n = .int .i64 N ∧ RcOk 60 (1 + countL (K.take j)) N ∧ Below w.heap.size w wr) (fun _ i _ => K.length - (intOf i).toNat)
  case atStart => exact ⟨0, 1, Nat.zero_le _, rfl, rfl, ⟨fun _ => by simp [countL], fun h => by simp [countL] at h, by omega, by simp [countL]⟩, (Below.refl _ _).alloc (Nat.le_refl _) _⟩
  case round =>
    obtain ⟨wo, rfl⟩ : ∃ wo : World, wo = wr := ⟨_, rfl⟩
    obtain ⟨j, N, hj, rfl, rfl, hR, hb⟩ := hrel
    have HB := Lib.hid hb
    have HR := Lib.hid hR
    have hj0 : (0 : Int) ≤ (j : Int) := Int.natCast_nonneg _
    have hct := countL_take K j
    have n1 : 1 ≤ N := hR.2.2.1
    have n2 : N ≤ 1099511627776 := by have := hR.2.2.2; omega
    clear hR
    by_cases hlt : j < K.length
    · have hj1 : (j : Int) < (K.length : Int) := by omega
      obtain ⟨e, b, off, k, rfl, rfl, hbl, hc, hv⟩ := (HT.out.below hb).kid hlt
      obtain ⟨c0, c1, c2, c3⟩ := hc
      have hkb := countL_bd K j hlt
      have CS := Lib.hid (countL_succ K j hlt)
      have HK := Lib.hid (fun (W : World) (hW : Below wo.heap.size wo W) => IH.out e (by omega) k K[j] W (hv.below hW) (by omega))
      clear hv hb
      by_cases hm : N ≤ 60
      · have HK2 := Lib.hid (HK.out _ ((Below.refl _ _).alloc (Nat.le_refl _) (.cells #[.int .i64 k.op, .int .i64 k.num, .int .i64 k.more, .slice k.p k.n k.c] 29)))
        clear HK
        go_wp2_with (first | (go_at_call 16; (with_reducible refine Calls.mono HK2.out ?_); rintro e w1 ⟨M, hM, rfl, hb1⟩; have m1 : 1 ≤ M := hM.2.2.1; have m2 : M ≤ 1099511627776 := (by have := hM.2.2.2; omega); have HM := Lib.hid hM; clear hM))
        go_roundw
        case rel => exact ⟨j + 1, N + M, by omega, by go_num, rfl, by rw [CS.out, ← Nat.add_assoc]; exact HR.out.step (by omega) HM.out, bstep (Nat.le_refl _) (balloc (Nat.le_refl _) HB.out _) hb1⟩
        case measure => simp [intOf]; omega
      · clear HK
        go_wp2
        go_roundw
        case rel => exact ⟨j + 1, N, by omega, by go_num, rfl, by rw [CS.out, ← Nat.add_assoc]; exact HR.out.keep (by omega), balloc (Nat.le_refl _) HB.out _⟩
        case measure => simp [intOf]; omega
    · obtain rfl : j = K.length := by omega
      rw [List.take_length] at HR
      clear hb hct
      go_wp2
      go_ret
      exact ⟨N, HR.out, rfl, HB.out⟩

set_option maxHeartbeats 4000000 in
theorem depth16_any {Q : Nat → Prop} : ∀ (d : Nat) (r : RT) (t : Tm) (w : World), TV Q w d r t → count t ≤ 1099511627776 →
    Calls Tryz.prog 119 #[.agg #[.int .i64 r.op, .int .i64 r.num, .int .i64 r.more, .slice r.p r.n r.c]] w (IntG (depth t : Int) w) := by
  intro d
  induction d using Nat.strongRecOn with
  | _ d ih =>
  intro r t w h hz
  obtain ⟨ro, rn, rm, rp, rl, rc⟩ := r
  obtain ⟨to, tn, tm, K⟩ := t
  have hat : TmsAt Q w d rp K := h.at_
  have hlen : rl = K.length := h.is.n
  have hn := hat.len
  rw [count_cons] at hz
  rw [depth_cons]
  have hdc := depthL_le_count K
  simp only
  subst hlen
  have HT := Lib.hid hat
  have IH := Lib.hid ih
  clear h ih hat
  go_enter Tryz.func119, Tryz.ntmps119
  go_wp2
  go_loopw [3, 9] (fun n i wr => ∃ j : Nat, j ≤ K.length ∧ i = .int .i64 j ∧ n = .int .i64 (depthL (K.take j) : Int) ∧ Below w.heap.size w wr) (fun _ i _ => K.length - (intOf i).toNat)
  case atStart => exact ⟨0, Nat.zero_le _, rfl, rfl, (Below.refl _ _).alloc (Nat.le_refl _) _⟩
  case round =>
    obtain ⟨wo, rfl⟩ : ∃ wo : World, wo = wr := ⟨_, rfl⟩
    obtain ⟨j, hj, rfl, rfl, hb⟩ := hrel
    have HB := Lib.hid hb
    have hj0 : (0 : Int) ≤ (j : Int) := Int.natCast_nonneg _
    by_cases hlt : j < K.length
    · have hj1 : (j : Int) < (K.length : Int) := by omega
      obtain ⟨e, b, off, k, rfl, rfl, hbl, hc, hv⟩ := (HT.out.below hb).kid hlt
      obtain ⟨c0, c1, c2, c3⟩ := hc
      have hkb := countL_bd K j hlt
      have CS := Lib.hid (depthL_succ K j hlt)
      have HK := Lib.hid (IH.out e (by omega) k K[j] _ (hv.below ((Below.refl _ _).alloc (Nat.le_refl _) (.cells #[.int .i64 k.op, .int .i64 k.num, .int .i64 k.more, .slice k.p k.n k.c] 29))) (by omega))
      clear hv hb
      obtain ⟨D, eD⟩ : ∃ D, depth K[j] = D := ⟨_, rfl⟩
      rw [eD] at CS HK
      obtain ⟨E, eE⟩ : ∃ E, depthL (K.take j) = E := ⟨_, rfl⟩
      rw [eE] at CS ⊢
      clear eD eE
      by_cases hm : D ≤ E
      · have HM := Lib.hid (show depthL (K.take (j + 1)) = E by rw [CS.out]; omega)
        have hm1 : ¬ (E : Int) < (D : Int) := by omega
        go_wp2_with (first | (go_at_call 119; (with_reducible refine Calls.mono HK.out ?_); rintro e w1 ⟨rfl, hb1⟩))
        go_roundw
        case rel => exact ⟨j + 1, by omega, by go_num, by rw [HM.out]; first | rfl | (congr 1; omega), bstep (Nat.le_refl _) (balloc (Nat.le_refl _) HB.out _) hb1⟩
        case measure => simp [intOf]; omega
      · have HM := Lib.hid (show depthL (K.take (j + 1)) = D by rw [CS.out]; omega)
        have hm1 : (E : Int) < (D : Int) := by omega
        go_wp2_with (first | (go_at_call 119; (with_reducible refine Calls.mono HK.out ?_); rintro e w1 ⟨rfl, hb1⟩))
        go_roundw
        case rel => exact ⟨j + 1, by omega, by go_num, by rw [HM.out]; first | rfl | (congr 1; omega), bstep (Nat.le_refl _) (balloc (Nat.le_refl _) HB.out _) hb1⟩
        case measure => simp [intOf]; omega
    · obtain rfl : j = K.length := by omega
      rw [List.take_length]
      clear hb
      go_wp2
      go_ret
      exact ⟨ret_int (by omega), HB.out⟩

end Go.Proofs.YtflcdkibjakciaaGreatDoor

namespace Go.Proofs.YtflcdkibjakciaaGreatDoor
open Go.RowKit Te

def lowT (o : Int) : Int := if o = 2 then 0 else if o = 3 then 0 else if o = 4 then 1 else if o = 5 then 0 else if o = 6 then 2 else if o = 7 ∨ o = 8 then 1 else 0
def highT (o : Int) : Int := if o = 2 then 39 else if o = 3 then 40 else if o = 4 then 16 else if o = 5 then 15 else if o = 6 then 10 else if o = 7 ∨ o = 8 then 10 else 0
def hasT (o : Int) : Bool := decide (2 ≤ o) && decide (o ≤ 8)
def leastT (o : Int) : Int := if o = 9 ∨ o = 10 then 1 else if o = 11 then 1 else 0
def mostT (o : Int) : Int := if o = 9 ∨ o = 10 then 40 else if o = 11 then 1 else 0

/-- Which terms are right by themselves, as the program asks. -/
theorem self_split {o n m : Int} {k : Nat} (ho : 1 ≤ o) (ho2 : o ≤ 11) :
    (selfB o n m k && decide (k ≤ 40)) = true ↔ (if hasT o = true then lowT o ≤ n ∧ n ≤ highT o else n = 0) ∧ (o = 4 → single n = true) ∧ (if o = 7 then single m = true else m = 0) ∧ leastT o ≤ (k : Int) ∧ (k : Int) ≤ mostT o := by
  have : o = 1 ∨ o = 2 ∨ o = 3 ∨ o = 4 ∨ o = 5 ∨ o = 6 ∨ o = 7 ∨ o = 8 ∨ o = 9 ∨ o = 10 ∨ o = 11 := by omega
  have hs : single n = true → 1 ≤ n ∧ n ≤ 16 := by
    unfold single; simp only [Bool.or_eq_true, beq_iff_eq]; omega
  have hk : (k == 1) = true ↔ k = 1 := beq_iff_eq
  have hk0 : (k == 0) = true ↔ k = 0 := beq_iff_eq
  have hn0 : (n == 0) = true ↔ n = 0 := beq_iff_eq
  have hm0 : (m == 0) = true ↔ m = 0 := beq_iff_eq
  cases hsn : single n <;> cases hsm : single m <;> simp only [hsn, true_implies, Bool.false_eq_true, false_implies] at hs <;>
    (rcases this with rfl | rfl | rfl | rfl | rfl | rfl | rfl | rfl | rfl | rfl | rfl <;> simp [selfB, hasT, lowT, highT, leastT, mostT, hsn, hsm] <;> omega)

theorem right_fail {d : Nat} {o n m : Int} {K : List Tm} (h : (selfB o n m K.length && decide (K.length ≤ 40)) = false) : rightB (d + 1) (.mk o n m K) = false := by
  rw [rightB, h, Bool.false_and]

theorem right_self {d : Nat} {o n m : Int} {K : List Tm} (h : (selfB o n m K.length && decide (K.length ≤ 40)) = true) : rightB (d + 1) (.mk o n m K) = K.all (rightB d) := by
  rw [rightB, h, Bool.true_and]

theorem self_out {o n m : Int} {k : Nat} (h : o < 1 ∨ 11 < o) : (selfB o n m k && decide (k ≤ 40)) = false := by
  unfold selfB
  rw [if_neg (by omega), if_neg (by omega), if_neg (by omega), if_neg (by omega), if_neg (by omega), if_neg (by omega), if_neg (by omega), if_neg (by omega), if_neg (by omega), if_neg (by omega)]
  rfl

set_option maxHeartbeats 4000000 in
theorem limits_any (o : Int) (w : World) : Calls Tryz.prog 126 #[.int .i64 o] w fun e w' => e = .returned (.tuple #[.int .i64 (lowT o), .int .i64 (highT o), .bool (hasT o)]) ∧ w = w' := by
  by_cases h2 : o = 2
  · subst h2
    go_enter Tryz.func126, Tryz.ntmps126
    go_wp2
    go_ret3
    exact ⟨rfl, rfl⟩
  by_cases h3 : o = 3
  · subst h3
    go_enter Tryz.func126, Tryz.ntmps126
    go_wp2
    go_ret3
    exact ⟨rfl, rfl⟩
  by_cases h4 : o = 4
  · subst h4
    go_enter Tryz.func126, Tryz.ntmps126
    go_wp2
    go_ret3
    exact ⟨rfl, rfl⟩
  by_cases h5 : o = 5
  · subst h5
    go_enter Tryz.func126, Tryz.ntmps126
    go_wp2
    go_ret3
    exact ⟨rfl, rfl⟩
  by_cases h6 : o = 6
  · subst h6
    go_enter Tryz.func126, Tryz.ntmps126
    go_wp2
    go_ret3
    exact ⟨rfl, rfl⟩
  by_cases h7 : o = 7
  · subst h7
    go_enter Tryz.func126, Tryz.ntmps126
    go_wp2
    go_ret3
    exact ⟨rfl, rfl⟩
  by_cases h8 : o = 8
  · subst h8
    go_enter Tryz.func126, Tryz.ntmps126
    go_wp2
    go_ret3
    exact ⟨rfl, rfl⟩
  have e1 : lowT o = 0 := by unfold lowT; rw [if_neg h2, if_neg h3, if_neg h4, if_neg h5, if_neg h6, if_neg (by omega)]
  have e2 : highT o = 0 := by unfold highT; rw [if_neg h2, if_neg h3, if_neg h4, if_neg h5, if_neg h6, if_neg (by omega)]
  have e3 : hasT o = false := by unfold hasT; cases h : (decide (2 ≤ o) && decide (o ≤ 8)) <;> simp at h ⊢; omega
  rw [e1, e2, e3]
  clear e1 e2 e3
  go_enter Tryz.func126, Tryz.ntmps126
  go_wp2
  go_ret3
  exact ⟨rfl, rfl⟩

set_option maxHeartbeats 4000000 in
theorem kids_any (o : Int) (w : World) : Calls Tryz.prog 127 #[.int .i64 o] w fun e w' => e = .returned (.tuple #[.int .i64 (leastT o), .int .i64 (mostT o)]) ∧ w = w' := by
  by_cases h2 : o = 9
  · subst h2
    go_enter Tryz.func127, Tryz.ntmps127
    go_wp2
    go_ret2
    exact ⟨rfl, rfl⟩
  by_cases h3 : o = 10
  · subst h3
    go_enter Tryz.func127, Tryz.ntmps127
    go_wp2
    go_ret2
    exact ⟨rfl, rfl⟩
  by_cases h4 : o = 11
  · subst h4
    go_enter Tryz.func127, Tryz.ntmps127
    go_wp2
    go_ret2
    exact ⟨rfl, rfl⟩
  have e1 : leastT o = 0 := by unfold leastT; rw [if_neg (by omega), if_neg h4]
  have e2 : mostT o = 0 := by unfold mostT; rw [if_neg (by omega), if_neg h4]
  rw [e1, e2]
  clear e1 e2
  go_enter Tryz.func127, Tryz.ntmps127
  go_wp2
  go_ret2
  exact ⟨rfl, rfl⟩

set_option maxHeartbeats 4000000 in
theorem single_any (n : Int) (w : World) : Calls Tryz.prog 128 #[.int .i64 n] w fun e w' => e = .returned (.bool (single n)) ∧ w = w' := by
  by_cases h1 : n < 1
  · have e : single n = false := by
      unfold single
      simp only [Bool.or_eq_false_iff, beq_eq_false_iff_ne]
      omega
    rw [e]
    clear e
    go_enter Tryz.func128, Tryz.ntmps128
    go_wp2
    go_ret
    exact ⟨rfl, rfl⟩
  by_cases h2 : 16 < n
  · have e : single n = false := by
      unfold single
      simp only [Bool.or_eq_false_iff, beq_eq_false_iff_ne]
      omega
    rw [e]
    clear e
    go_enter Tryz.func128, Tryz.ntmps128
    go_wp2
    go_ret
    exact ⟨rfl, rfl⟩
  have : n = 1 ∨ n = 2 ∨ n = 3 ∨ n = 4 ∨ n = 5 ∨ n = 6 ∨ n = 7 ∨ n = 8 ∨ n = 9 ∨ n = 10 ∨ n = 11 ∨ n = 12 ∨ n = 13 ∨ n = 14 ∨ n = 15 ∨ n = 16 := by omega
  clear h1 h2
  rcases this with rfl | rfl | rfl | rfl | rfl | rfl | rfl | rfl | rfl | rfl | rfl | rfl | rfl | rfl | rfl | rfl
  all_goals
    go_enter Tryz.func128, Tryz.ntmps128
    go_wp2
    go_ret
    exact ⟨by kernel_rfl, rfl⟩

end Go.Proofs.YtflcdkibjakciaaGreatDoor
