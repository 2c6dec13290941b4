/-
  MERGED (mergek.py): the texts Gc, T7, T8.
-/
import Derived.Test.YtflcdkibjakciaaGreatDoorM4
import Derived.Lib.SliceRun
import Derived.BigFrame
import Derived.Test.YtflcdkibjakciaaGreatDoorM7
import Derived.Test.YtflcdkibjakciaaGreatDoorM9
import Derived.Test.YtflcdkibjakciaaGreatDoorM8
import Derived.Deep.RegionHeld3
import Derived.RangeFuncRecord

namespace Go.Proofs.YtflcdkibjakciaaGreatDoor
open Go.RowKit

theorem run_clear_any {P : Program} (w : World) (t e : TypeId) (z : Value) (k : Nat) (ht : P.underlying t = some (.slice e)) (hv : ∀ w, (zeroValue e).run P w = .ok z w) (hz : z.cells.size = k) (h1 : ∀ u ∈ z.cells.toList, u.oneCell' = true) (b o n c : Nat) (hn : 0 < n) (hk : 0 < k)
    (hc : ∀ j, j < n * k → (w.cell? ⟨b, o + j, none⟩).isSome = true) (hf : ∀ j, j < n * k → w.frozen? ⟨b, o + j, none⟩ = false) :
    ∃ Z : List Value, Z.length = n * k ∧ ∀ ty, (Builtin.clear_ #[t] ty #[.slice (some ⟨b, o, none⟩) n c]).run P w = .ok (.tuple #[]) (w.setCells b o Z) := by
  have hl : (Builtin.zeroCells z.cells n).toList.length = n * k := by simp [Builtin.zeroCells, hz]
  have ho : ∀ u ∈ (Builtin.zeroCells z.cells n).toList, u.oneCell' = true := fun u hu => by
    simp only [Builtin.zeroCells, Array.toList_map, List.mem_map] at hu
    obtain ⟨i, -, rfl⟩ := hu
    rw [hz]
    have hlt : i % k < z.cells.size := by rw [hz]; exact Nat.mod_lt _ hk
    rw [getElem!_pos z.cells (i % k) hlt]
    exact h1 _ (by rw [← Array.getElem_toList]; exact List.getElem_mem _)
  have hst := run_storeCells_cells (P := P) b o (Builtin.zeroCells z.cells n).toList 0 w (by rw [hl]; simpa using hc) (by rw [hl]; simpa using hf) ho
  simp only [Nat.add_zero] at hst
  obtain ⟨m, rfl⟩ : ∃ m, n = m + 1 := ⟨n - 1, by omega⟩
  exact ⟨_, hl, fun ty => by simp [Builtin.clear_, run_underlying ht, hv, hst]⟩

/-- A block that holds cells of type T, unfrozen. -/
def BlockAt (w : World) (T : TypeId) (b : Nat) (cur : Array Value) : Prop := w.heap[b]? = some (.cells cur T (0, 0))

theorem BlockAt.set {w : World} {T : TypeId} {b : Nat} {cur : Array Value} (h : BlockAt w T b cur) (i : Nat) (v : Value) : BlockAt (w.setCell ⟨b, i, none⟩ v) T b (cur.setIfInBounds i v) := by
  unfold BlockAt at h ⊢
  simp [World.setCell, Array.getElem?_modify, h]

theorem BlockAt.below {w w' : World} {T : TypeId} {b : Nat} {cur : Array Value} (h : BlockAt w T b cur) (hb : Below w.heap.size w w') : BlockAt w' T b cur := by
  unfold BlockAt at h ⊢
  rw [hb.block b (Array.getElem?_eq_some_iff.1 h).1]; exact h

theorem BlockAt.drew {w : World} {T : TypeId} {b : Nat} {cur : Array Value} (h : BlockAt w T b cur) : BlockAt w.drew T b cur := h

theorem BlockAt.setCells {T : TypeId} {b : Nat} (Z : List Value) : ∀ {w : World} {cur : Array Value} (o : Nat), BlockAt w T b cur → ∃ cur', BlockAt (w.setCells b o Z) T b cur' ∧ cur'.size = cur.size ∧ ∀ j, j < o → cur'[j]? = cur[j]? := by
  induction Z with
  | nil => exact fun o h => ⟨_, h, rfl, fun _ _ => rfl⟩
  | cons v Z ih =>
    intro w cur o h
    obtain ⟨cur', h1, h2, h3⟩ := ih (o + 1) (h.set o v)
    refine ⟨cur', h1, by rw [h2]; simp, fun j hj => ?_⟩
    rw [h3 j (by omega)]
    simp [Nat.ne_of_gt hj]

theorem setCells_below (Z : List Value) : ∀ {w : World} {B b : Nat} (o : Nat), B ≤ b → Below B w (w.setCells b o Z) := by
  induction Z with
  | nil => exact fun o _ => Below.refl _ _
  | cons v Z ih => exact fun o hB => ((Below.refl _ _).setCell hB v).trans (ih (o + 1) hB)

theorem setCells_other (Z : List Value) : ∀ {w : World} {b k : Nat} (o : Nat), k ≠ b → (w.setCells b o Z).heap[k]? = w.heap[k]? := by
  induction Z with
  | nil => exact fun o _ => rfl
  | cons v Z ih =>
    intro w b k o hne
    show ((w.setCell ⟨b, o, none⟩ v).setCells b (o + 1) Z).heap[k]? = _
    rw [ih (o + 1) hne]
    simp [World.setCell, Array.getElem?_modify, Ne.symm hne]

variable {α : Type} {S : Shape α}

/-- The beginning of a block as a row of the call's own. -/
theorem OwnR.of_block {w : World} {T : TypeId} {B g cap : Nat} {cur : Array Value} {L : List α} (hb : BlockAt w T g cur) (hB : B ≤ g) (hl : L.length ≤ cap) (hm : cap ≤ maxLen) (hs : cur.size = cap * S.k) (ht : cur.toList.take (L.length * S.k) = S.flat L) : OwnR S w T B (.slice (some ⟨g, 0, none⟩) L.length cap) L :=
  ⟨S.flat_len L, .inr ⟨g, cap, cur, rfl, hB, hb, hl, hm, hs, ht⟩⟩

theorem OwnR.block {w : World} {T : TypeId} {B n cap : Nat} {p : Option Addr} {L : List α} (h : OwnR S w T B (.slice p n cap) L) (h0 : 0 < L.length) :
    ∃ g cur, p = some ⟨g, 0, none⟩ ∧ n = L.length ∧ B ≤ g ∧ g < w.heap.size ∧ BlockAt w T g cur ∧ L.length ≤ cap ∧ cap ≤ maxLen ∧ cur.size = cap * S.k ∧ cur.toList.take (L.length * S.k) = S.flat L := by
  rcases h.2 with ⟨hv, hn⟩ | ⟨g, cap', cur, hv, hB, hg, hle, hm, hs, ht⟩
  · omega
  · simp only [Value.slice.injEq] at hv
    obtain ⟨rfl, rfl, rfl⟩ := hv
    exact ⟨g, cur, rfl, rfl, hB, (Array.getElem?_eq_some_iff.1 hg).1, hg, hle, hm, hs, ht⟩

/-- append of a slice of records to a row of the call's own, at a step of a region that draws its order. -/
theorem OwnR.stepAll {P : Program} {T TS : TypeId} {bytes : Nat} (he : Elem S P T TS bytes) {w : World} {ops : Array Oper} {o : Oper} {a : Act} {K : Act → World → Prop} {Q : Exit → Act → World → Prop} {E : Prop} (hgd : o.guard = none) (s x : Operand)
    (ho : o.op = .call { callee := .builtin .append, args := #[s, x], argTypes := #[TS, TS] }) (B : Nat) (v : Value) (L M : List α) (p : Option Addr) (c n : Nat) (hM : M.length = n) (hown : OwnR S w T B v L) (hsrc : Recs S w p M) (hp : p = none → c = 0) (hs : a.eval s = v)
    (hx : a.eval x = .slice p n c) (hB : B ≤ w.heap.size) (hn : L.length + n < 1073741824) (hby : bytes ≤ 65536)
    (h : ∀ v' w', OwnR S w' T B v' (L ++ M) → Below B w w' → K (a.put o.dst v') w') : if Region.wanted o (yielded ops a.tmps) = true then Oper.wp P o a w K Q else E := by
  subst hM
  have hw : Region.wanted o (yielded ops a.tmps) = true := by simp [Region.wanted, hgd]
  rw [if_pos hw]
  obtain ⟨i0, z, e1, e2, e3, e4, e5⟩ := he.ex
  have hb2 : (L.length + M.length) * bytes ≤ 1073741824 * 65536 := Nat.mul_le_mul (by omega) hby
  cases p with
  | none =>
    obtain rfl := hp rfl
    have hM : M = [] := by
      rcases hsrc.2 with h | ⟨b, off, h, _⟩
      · exact h
      · cases h
    subst hM
    have hrun := run_append_owned_none (P := P) (w := w) B TS o.type T i0 S.k he.ts e1 v L.length (S.flat L) hown
    unfold Oper.wp
    simp [execOp, ho, resolve, invoke, builtin, hs, hx, hrun, Result.andThen]
    exact h _ _ (by rw [List.append_nil]; exact hown) (Below.refl _ _)
  | some ad =>
    obtain ⟨v', w', hr, h2, h3, h4⟩ := run_append_own (P := P) w B TS o.type T i0 z S.k bytes he.ts e1 e2 e3 e4 e5 S.pos v L.length (S.flat L) hown ad M.length c (S.flat M) (S.flat_len M) (fun j u hu => by
      rcases hsrc.2 with rfl | ⟨b', off', hp', hl, hc⟩
      · simp [Shape.flat] at hu
      · cases hp'
        rw [Go.WideShapes.add_plain]
        exact hc j u hu) (S.flat_ones M) (by unfold maxLen; omega) (by omega) hB
    unfold Oper.wp execOp
    simp only [ho, resolve, invoke, builtin, Sem.run_bind, Sem.run_pure, Result.andThen_ok, List.map_toArray, List.map_cons, List.map_nil, hs, hx, hr]
    refine h v' w' ?_ ((Below.refl _ w).grown h3 hB fun k hk => (World.ownsRow.lt hown k hk).1)
    unfold OwnR
    rw [List.length_append, S.flat_append]
    exact h2

end Go.Proofs.YtflcdkibjakciaaGreatDoor

namespace Go.Proofs.YtflcdkibjakciaaGreatDoor
open Go.RowKit Te

theorem OwnR.lit {α : Type} {S : Shape α} (w : World) (T : TypeId) (L : List α) (hl : L.length ≤ maxLen) : OwnR S (w.alloc (.cells (S.flat L).toArray T)) T w.heap.size (.slice (some ⟨w.heap.size, 0, none⟩) L.length L.length) L :=
  OwnR.of_block (cur := (S.flat L).toArray) (World.alloc_heap_new _ _) (Nat.le_refl _) (Nat.le_refl _) hl (by simp [S.flat_len]) (by rw [List.take_of_length_le (by simp [S.flat_len])])

/-- Words in memory of the call's own. -/
def TxG (ws : List ByteArray) (w : World) (e : Ending) (w' : World) : Prop := ∃ p c, e = .returned (.slice p ws.length c) ∧ OwnR SB w' 9 w.heap.size (.slice p ws.length c) ws ∧ Below w.heap.size w w'

theorem TxG.lit {w w1 : World} (hb : Below w.heap.size w w1) {ws : List ByteArray} {cs : Array Value} (h : (SB.flat ws).toArray = cs) (hl : ws.length ≤ 100) {n : Nat} (hn : ws.length = n) {g : Nat} (hg : w1.heap.size = g) : TxG ws w (.returned (.slice (some ⟨g, 0, none⟩) n n)) (w1.alloc (.cells cs 9)) := by
  subst hg
  subst h
  subst hn
  exact ⟨_, _, rfl, (OwnR.lit w1 9 ws (by unfold maxLen; omega)).mono hb.size, balloc (Nat.le_refl _) hb _⟩

theorem TxG.own {w w1 : World} {v : Value} {ws : List ByteArray} (hb : Below w.heap.size w w1) (h : OwnR SB w1 9 w.heap.size v ws) : TxG ws w (.returned v) w1 := by
  obtain ⟨p, c, rfl, -⟩ := h.cut rfl
  exact ⟨p, c, rfl, h, hb⟩

theorem single_nat {m : Int} (h : single m = true) : ∃ k : Nat, k < 32 ∧ m = (k : Int) := by
  simp only [single, Bool.or_eq_true, beq_iff_eq] at h
  rcases h with (((rfl | rfl) | rfl) | rfl) | rfl
  · exact ⟨1, by decide, rfl⟩
  · exact ⟨2, by decide, rfl⟩
  · exact ⟨4, by decide, rfl⟩
  · exact ⟨8, by decide, rfl⟩
  · exact ⟨16, by decide, rfl⟩

set_option maxHeartbeats 1000000 in
theorem letter_any (m : Nat) (hm : m < 32) (w : World) : Calls Tryz.prog 132 #[.int .i64 (m : Int)] w (StrGive (Cr.mword m) w) := by
  have MK := Lib.hid (marks_any m hm w)
  go_enter Tryz.func132, Tryz.ntmps132
  go_wp2_with (first | (go_at_call 149; (with_reducible refine Calls.mono MK.out ?_); rintro e w1 ⟨rfl, hb1⟩))
  go_ret
  exact ⟨rfl, hb1⟩

theorem textL_len {K : List Tm} {k : Tm} (h : k ∈ K) : (textW k).length ≤ (textL K).length := by
  induction K with
  | nil => cases h
  | cons a r ih =>
    rw [textL, List.length_append]
    rcases List.mem_cons.1 h with rfl | h
    · omega
    · have := ih h; omega

theorem textL_append (A B : List Tm) : textL (A ++ B) = textL A ++ textL B := by
  induction A with
  | nil => simp [textL]
  | cons a r ih => rw [List.cons_append, textL, textL, ih, List.append_assoc]

theorem textL_succ (K : List Tm) (j : Nat) (h : j < K.length) : textL (K.take (j + 1)) = textL (K.take j) ++ textW K[j] := by
  rw [List.take_succ_eq_append_getElem h, textL_append, textL, textL, List.append_nil]

theorem textL_take (K : List Tm) (j : Nat) : (textL (K.take j)).length ≤ (textL K).length := by
  have := textL_append (K.take j) (K.drop j)
  rw [List.take_append_drop] at this
  rw [this, List.length_append]; omega

theorem form_mem {K : List Tm} (h : formL K = true) (j : Nat) (hj : j < K.length) : form K[j] = true := formL_iff.1 h _ (List.getElem_mem hj)

def TextAt (Q : Nat → Prop) (d : Nat) : Prop := ∀ (r : RT) (t : Tm) (w : World), TV Q w d r t → form t = true → (textW t).length ≤ 1000000 → Env w →
    Calls Tryz.prog 101 #[.agg #[.int .i64 r.op, .int .i64 r.num, .int .i64 r.more, .slice r.p r.n r.c]] w (TxG ((textW t).map bs) w)

/-- The plain ones. -/
theorem text_leaf {o n m : Int} {p : Option Addr} {c : Nat} {K : List Tm} {w : World} (hE : Env w) (hf : form (.mk o n m K) = true) (ho : ¬ o = 9 ∧ ¬ o = 10 ∧ ¬ o = 11) :
    Calls Tryz.prog 101 #[.agg #[.int .i64 o, .int .i64 n, .int .i64 m, .slice p K.length c]] w (TxG ((textW (.mk o n m K)).map bs) w) := by
  have B0 := Bx.box w ⟨o, n, m, p, K.length, c⟩ 29
  simp only at B0
  obtain ⟨o1, o2⟩ := form_op hf
  rw [form_cons, Bool.and_eq_true] at hf
  have hs := hf.1
  clear hf
  by_cases h1 : o = 1
  · subst h1
    have HX := Lib.hid B0
    have HT := Lib.hid (show textW (.mk 1 n m K) = [opW 1] by rw [textW, if_pos rfl])
    clear B0 hE hs o1 o2 ho
    go_enter Tryz.func101, Tryz.ntmps101
    go_wp2
    go_ret
    rw [HT.out]
    exact TxG.lit HX.out.below (ws := [bs (opW 1)]) rfl (by show 1 ≤ 100; omega) rfl (by simp)
  by_cases h4 : o = 4
  · subst h4
    simp [selfB] at hs
    obtain ⟨k, hk, rfl⟩ := single_nat hs.1.1
    have HX := Lib.hid B0
    have HT := Lib.hid (show textW (.mk 4 (k : Int) m K) = [opW 4, Cr.mword k] by rw [textW, if_neg (by decide), if_pos rfl]; rfl)
    have LT := Lib.hid (fun W => letter_any k hk W)
    clear B0 hE hs o1 o2 ho hk
    go_enter Tryz.func101, Tryz.ntmps101
    go_wp2_with (first | (go_at_call 132; (with_reducible refine Calls.mono (LT.out _) ?_); rintro e w1 ⟨rfl, hb1⟩))
    go_ret
    rw [HT.out]
    exact TxG.lit (bstep (Nat.le_refl _) HX.out.below hb1) rfl (by simp) rfl (by first | rfl | simp)
  by_cases h7 : o = 7
  · subst h7
    simp [selfB] at hs
    obtain ⟨k, hk, rfl⟩ := single_nat hs.1.2
    have hn1 := hs.1.1
    have HT := Lib.hid (show textW (.mk 7 n (k : Int) K) = [opW 7, Lib.itoa n, Cr.mword k] by rw [textW, if_neg (by decide), if_neg (by decide), if_pos rfl]; rfl)
    have LT := Lib.hid (fun W => letter_any k hk W)
    have DE := Lib.hid (fun (W : World) (hb : Bx w W ⟨7, n, (k : Int), p, K.length, c⟩) => decimal_any n W (hE.below hb.below) (by omega) (by omega))
    have BN := Lib.hid (fun (W W' : World) (hW : Bx w W ⟨7, n, (k : Int), p, K.length, c⟩) (hb : Below W.heap.size W W') => show Bx w W' ⟨7, n, (k : Int), p, K.length, c⟩ from ⟨bstep (Nat.le_refl _) hW.below hb, ⟨(hb.cell (p := ⟨w.heap.size, 0, none⟩) hW.lt).trans hW.cells.c0, (hb.cell (p := ⟨w.heap.size, 0 + 1, none⟩) hW.lt).trans hW.cells.c1, (hb.cell (p := ⟨w.heap.size, 0 + 2, none⟩) hW.lt).trans hW.cells.c2, (hb.cell (p := ⟨w.heap.size, 0 + 3, none⟩) hW.lt).trans hW.cells.c3⟩, Nat.lt_of_lt_of_le hW.lt hb.size⟩)
    have KC := Lib.hid (fun (W : World) (hW : Bx w W ⟨7, n, (k : Int), p, K.length, c⟩) => show W.cell? ⟨w.heap.size, 1, none⟩ = some (.int .i64 n) ∧ W.cell? ⟨w.heap.size, 2, none⟩ = some (.int .i64 (k : Int)) from ⟨hW.cells.c1, hW.cells.c2⟩)
    have K0 := B0
    have K0d := BN.out _ _ B0 ((Below.refl _ _).drew)
    clear hE hs o1 o2 ho hk B0 hn1
    go_enter Tryz.func101, Tryz.ntmps101
    go_wp2_with fail
    go_region_held3 (fun W => W.cell? ⟨w.heap.size, 1, none⟩ = some (.int .i64 n) ∧ W.cell? ⟨w.heap.size, 2, none⟩ = some (.int .i64 (k : Int)))
      (first | exact KC.out _ K0 | exact KC.out _ K0d | exact KC.out _ K5 | exact KC.out _ K6 | exact KC.out _ (BN.out _ _ K6 ((Below.refl _ _).alloc (Nat.le_refl _) _)) | fail)
      (first
        | (go_at_call 63; (with_reducible refine Calls.mono (DE.out _ (by first | exact K0d | exact K0)) ?_); rintro e w5 ⟨rfl, hb5⟩; have K5 : Bx w w5 ⟨7, n, (k : Int), p, K.length, c⟩ := (by first | exact BN.out _ _ K0d hb5 | exact BN.out _ _ K0 hb5))
        | (go_at_call 132; (with_reducible refine Calls.mono (LT.out _) ?_); rintro e w6 ⟨rfl, hb6⟩; have K6 : Bx w w6 ⟨7, n, (k : Int), p, K.length, c⟩ := BN.out _ _ K5 hb6)
        | fail)
    go_wp2
    go_ret
    rw [HT.out]
    exact TxG.lit K6.below rfl (by simp) rfl (by first | rfl | simp)
  have HT := Lib.hid (show textW (.mk o n m K) = [opW o, Lib.itoa n] by
    rw [textW, if_neg h1, if_neg h4, if_neg h7, if_neg ho.2.2, if_neg (by omega)])
  have hn1 : 0 ≤ n ∧ n ≤ 40 := by
    unfold selfB at hs
    repeat' split at hs
    all_goals first | omega | (simp at hs) | (cases hs)
    all_goals omega
  have DE := Lib.hid (fun (W : World) (hb : Below w.heap.size w W) => decimal_any n W (hE.below hb) (by omega) (by omega))
  have HX := Lib.hid B0
  have DE1 := Lib.hid (DE.out _ B0.below)
  have hor : o = 2 ∨ o = 3 ∨ o = 5 ∨ o = 6 ∨ o = 8 := by omega
  clear B0 hE hs o1 o2 ho hn1 DE h1 h4 h7
  rcases hor with rfl | rfl | rfl | rfl | rfl
  all_goals
    go_enter Tryz.func101, Tryz.ntmps101
    go_wp2_with (first | (go_at_call 63; (with_reducible refine Calls.mono DE1.out ?_); rintro e w1 ⟨rfl, hb1⟩))
    go_ret
    rw [HT.out]
    exact TxG.lit (bstep (Nat.le_refl _) HX.out.below hb1) rfl (by simp) rfl (by first | rfl | simp)

end Go.Proofs.YtflcdkibjakciaaGreatDoor

namespace Go.Proofs.YtflcdkibjakciaaGreatDoor
open Go.RowKit Te

theorem OwnR.src {α : Type} {S : Shape α} {w : World} {T : TypeId} {B n c : Nat} {p : Option Addr} {L : List α} (h : OwnR S w T B (.slice p n c) L) : L.length = n ∧ Recs S w p L ∧ (p = none → c = 0) := by
  obtain ⟨p', c', e, h1, -, -, -, h2⟩ := h.cut rfl
  simp only [Value.slice.injEq] at e
  obtain ⟨rfl, rfl, rfl⟩ := e
  exact ⟨rfl, h2, fun h => (h1 h).1⟩

def wNot11 : List UInt8 := [110, 111, 116]

set_option maxRecDepth 100000 in
set_option maxHeartbeats 8000000 in
theorem text_any {Q : Nat → Prop} (d : Nat) : TextAt Q d := by
  induction d using Nat.strongRecOn with
  | _ d ih =>
  intro r t w h hf hl hE
  obtain ⟨o, n, m, p, l, c⟩ := r
  obtain ⟨t0, tn, tm, K⟩ := t
  obtain rfl : o = t0 := h.is.op
  obtain rfl : n = tn := h.is.num
  obtain rfl : m = tm := h.is.more
  have hat : TmsAt Q w d p K := h.at_
  have hlen : l = K.length := h.is.n
  simp only
  subst hlen
  by_cases ho : ¬ o = 9 ∧ ¬ o = 10 ∧ ¬ o = 11
  · exact text_leaf hE hf ho
  have hn := hat.len
  have B0 := Bx.box w ⟨o, n, m, p, K.length, c⟩ 29
  simp only at B0
  rw [form_cons, Bool.and_eq_true] at hf
  obtain ⟨hs, hfL⟩ := hf
  have HB0 := Lib.hid B0.below
  have IH := Lib.hid ih
  have HE := Lib.hid (fun (W : World) (hb : Below w.heap.size w W) => hE.below hb)
  have HA := Lib.hid hat
  have HFL := Lib.hid hfL
  by_cases h11 : o = 11
  · subst h11
    simp [selfB] at hs
    obtain ⟨⟨rfl, rfl⟩, hk⟩ := hs
    obtain ⟨k, rfl⟩ : ∃ k, K = [k] := by
      match K, hk with
      | [k], _ => exact ⟨k, rfl⟩
    have HT := Lib.hid (show textW (.mk 11 0 0 [k]) = opW 11 :: textW k by
      rw [textW, if_neg (by decide), if_neg (by decide), if_neg (by decide), if_pos rfl, textL, textL, List.append_nil])
    obtain ⟨e, b, off, r, rfl, rfl, hbl, hcs, hv⟩ := hat.kid (k := 0) (by simp)
    rw [Nat.zero_mul, Nat.add_zero] at hcs
    obtain ⟨c0, c1, c2, c3⟩ := hcs
    have hkl : (textW k).length ≤ 1000000 := by
      have := hl
      rw [HT.out, List.length_cons] at this
      omega
    have TX := Lib.hid (fun (W : World) (hb : Below w.heap.size w W) => IH.out e (by omega) r k W (hv.below hb) (form_mem hfL 0 (by simp)) hkl (HE.out W hb))
    have HL := Lib.hid (show OwnR SB (((w.alloc (.cells #[.int .i64 11, .int .i64 0, .int .i64 0, .slice (some ⟨b, off, none⟩) 1 c] 29))).alloc (.cells #[.string ⟨#[110, 111, 116]⟩] 9)) 9 w.heap.size (.slice (some ⟨w.heap.size + 1, 0, none⟩) 1 1) [bs (opW 11)] by
      have := OwnR.lit (S := SB) ((w.alloc (.cells #[.int .i64 11, .int .i64 0, .int .i64 0, .slice (some ⟨b, off, none⟩) 1 c] 29))) 9 [bs (opW 11)] (by show 1 ≤ _; unfold maxLen; omega)
      rw [World.size_alloc] at this
      exact this.mono (Nat.le_succ _))
    have TX1 := Lib.hid (TX.out _ (balloc (Nat.le_refl _) HB0.out (.cells #[.string ⟨#[110, 111, 116]⟩] 9)))
    have HB1 := Lib.hid (balloc (Nat.le_refl _) HB0.out (.cells #[.string ⟨#[110, 111, 116]⟩] 9))
    rw [HT.out]
    clear TX IH HE HA HFL hat hv hE hfL h hl ho B0 ih hk
    go_enter Tryz.func101, Tryz.ntmps101
    go_wp2_with (first
      | (go_at_call 101; (with_reducible refine Calls.mono TX1.out ?_); rintro e w1 ⟨q, cc, rfl, hO, hb1⟩; have HL1 := Lib.hid (HL.out.below hb1); have HO1 := Lib.hid hO.src.2; have HB2 := Lib.hid (bstep (Nat.le_refl _) HB1.out hb1); have hsz := hb1.size; simp only [World.size_alloc] at hsz; clear hb1 hO)
      | (at_builtin; (refine OwnR.appendAll el_str rfl (.tmp 29) (.tmp 34) rfl w.heap.size _ [bs (opW 11)] ((textW k).map bs) q cc (textW k).length (List.length_map _) HL1.out HO1.out.1 HO1.out.2 rfl rfl (by omega) (by simp; omega) (by decide) ?_); intro v2 w2 hO2 hap2)
      | fail)
    go_ret
    exact TxG.own (HB2.out.trans hap2.below) hO2
  · have h9 : o = 9 ∨ o = 10 := by omega
    clear ho h11
    rcases h9 with h9 | h10
    · obtain rfl := h9
      have HT := Lib.hid (show textW (.mk 9 n m K) = opW 9 :: [40] :: (textL K ++ [[41]]) by
        rw [textW, if_neg (by decide), if_neg (by decide), if_neg (by decide), if_neg (by decide), if_pos (by decide)])
      have hkl : (textL K).length ≤ 1000000 := by
        have := hl
        rw [HT.out] at this
        simp only [List.length_cons, List.length_append, List.length_nil] at this
        omega
      have HL := Lib.hid (show OwnR SB ((w.alloc (.cells #[.int .i64 9, .int .i64 n, .int .i64 m, .slice p K.length c] 29)).alloc (.cells #[.string ⟨#[97, 110, 100]⟩, .string ⟨#[40]⟩] 9)) 9 w.heap.size (.slice (some ⟨w.heap.size + 1, 0, none⟩) 2 2) ((opW 9 :: [40] :: textL (K.take 0)).map bs) ∧ Below w.heap.size w ((w.alloc (.cells #[.int .i64 9, .int .i64 n, .int .i64 m, .slice p K.length c] 29)).alloc (.cells #[.string ⟨#[97, 110, 100]⟩, .string ⟨#[40]⟩] 9)) by
        have := OwnR.lit (S := SB) (w.alloc (.cells #[.int .i64 9, .int .i64 n, .int .i64 m, .slice p K.length c] 29)) 9 [bs (opW 9), bs [40]] (by show 2 ≤ _; unfold maxLen; omega)
        rw [World.size_alloc] at this
        exact ⟨this.mono (Nat.le_succ _), balloc (Nat.le_refl _) HB0.out _⟩)
      rw [HT.out]
      clear h hl hE ih hat hfL B0 hs
      go_enter Tryz.func101, Tryz.ntmps101
      go_wp2
      go_loopw [4, 48] (fun v i wr => ∃ j : Nat, j ≤ K.length ∧ i = .int .i64 j ∧ OwnR SB wr 9 w.heap.size v ((opW 9 :: [40] :: textL (K.take j)).map bs) ∧ Below w.heap.size w wr) (fun _ i _ => K.length - (intOf i).toNat)
      case atStart => exact ⟨0, Nat.zero_le _, rfl, HL.out⟩
      case round =>
        obtain ⟨wo, rfl⟩ : ∃ wo : World, wo = wr := ⟨_, rfl⟩
        obtain ⟨j, hj, rfl, hO, hb⟩ := hrel
        have HO := Lib.hid hO
        have HB := Lib.hid hb
        have hj0 : (0 : Int) ≤ (j : Int) := Int.natCast_nonneg _
        by_cases hlt : j < K.length
        · have hj1 : (j : Int) < (K.length : Int) := by omega
          obtain ⟨e, b, off, k, rfl, rfl, hbl, hcs, hv⟩ := (HA.out.below hb).kid hlt
          obtain ⟨c0, c1, c2, c3⟩ := hcs
          have hkj := textL_len (List.getElem_mem hlt)
          have HS := Lib.hid (textL_succ K j hlt)
          have hlj := textL_take K (j + 1)
          rw [HS.out, List.length_append] at hlj
          have HK := Lib.hid (IH.out e (by omega) k K[j] _ (hv.below ((Below.refl _ _).alloc (Nat.le_refl _) (.cells #[.int .i64 k.op, .int .i64 k.num, .int .i64 k.more, .slice k.p k.n k.c] 29))) (form_mem HFL.out j hlt) (by omega) (HE.out _ (balloc (Nat.le_refl _) hb _)))
          have HB1 := Lib.hid (balloc (Nat.le_refl _) hb (.cells #[.int .i64 k.op, .int .i64 k.num, .int .i64 k.more, .slice k.p k.n k.c] 29))
          have HO1 := Lib.hid (hO.below ((Below.refl _ _).alloc (Nat.le_refl _) (.cells #[.int .i64 k.op, .int .i64 k.num, .int .i64 k.more, .slice k.p k.n k.c] 29)))
          have hsz := hb.size
          clear hv hO hb
          go_wp2_with (first
            | (go_at_call 101; (with_reducible refine Calls.mono HK.out ?_); rintro e w1 ⟨q, cc, rfl, hO2, hb1⟩; have HO2 := Lib.hid hO2.src.2; have HB2 := Lib.hid (bstep (Nat.le_refl _) HB1.out hb1); have HO3 := Lib.hid (HO1.out.below hb1); have hz1 := hb1.size; simp only [World.size_alloc] at hz1; clear hb1 hO2)
            | (at_builtin; (refine OwnR.appendAll el_str rfl (.tmp 52) (.tmp 54) rfl w.heap.size _ ((opW 9 :: [40] :: textL (K.take j)).map bs) ((textW K[j]).map bs) q cc (textW K[j]).length (List.length_map _) HO3.out HO2.out.1 HO2.out.2 rfl rfl (by omega) (by simp; omega) (by decide) ?_); intro v2 w2 hO4 hap4; have HO4 := Lib.hid hO4; have HB4 := Lib.hid (HB2.out.trans hap4.below); clear hO4 hap4)
            | fail)
          go_roundw
          case rel => exact ⟨j + 1, by omega, by go_num, by rw [HS.out, ← List.cons_append, ← List.cons_append, List.map_append]; exact HO4.out, HB4.out⟩
          case measure => simp [intOf]; omega
        · obtain rfl : j = K.length := by omega
          rw [List.take_length] at HO
          have HB1 := Lib.hid (balloc (Nat.le_refl _) hb (.cells #[.string ⟨#[41]⟩] 9))
          have HO1 := Lib.hid (HO.out.below ((Below.refl _ _).alloc (Nat.le_refl _) (.cells #[.string ⟨#[41]⟩] 9)))
          have HS1 := Lib.hid (Recs.lit (S := SB) wo 9 [bs [41]] (by show 1 ≤ _; unfold maxLen; omega))
          have hsz := hb.size
          clear hO hb
          go_wp2_with (first
            | (at_builtin; (refine OwnR.appendAll el_str rfl (.tmp 57) (.tmp 58) rfl w.heap.size _ ((opW 9 :: [40] :: textL K).map bs) [bs [41]] (some ⟨wo.heap.size, 0, none⟩) 1 1 rfl HO1.out HS1.out (fun h => by cases h) rfl rfl (by simp; omega) (by simp; omega) (by decide) ?_); intro v2 w2 hO4 hap4; have HO4 := Lib.hid hO4; have HB4 := Lib.hid (HB1.out.trans hap4.below); clear hO4 hap4)
            | fail)
          go_ret
          refine TxG.own HB4.out ?_
          rw [← List.cons_append, ← List.cons_append, List.map_append]
          exact HO4.out
    · obtain rfl := h10
      have HT := Lib.hid (show textW (.mk 10 n m K) = opW 10 :: [40] :: (textL K ++ [[41]]) by
        rw [textW, if_neg (by decide), if_neg (by decide), if_neg (by decide), if_neg (by decide), if_pos (by decide)])
      have hkl : (textL K).length ≤ 1000000 := by
        have := hl
        rw [HT.out] at this
        simp only [List.length_cons, List.length_append, List.length_nil] at this
        omega
      have HL := Lib.hid (show OwnR SB ((w.alloc (.cells #[.int .i64 10, .int .i64 n, .int .i64 m, .slice p K.length c] 29)).alloc (.cells #[.string ⟨#[111, 114]⟩, .string ⟨#[40]⟩] 9)) 9 w.heap.size (.slice (some ⟨w.heap.size + 1, 0, none⟩) 2 2) ((opW 10 :: [40] :: textL (K.take 0)).map bs) ∧ Below w.heap.size w ((w.alloc (.cells #[.int .i64 10, .int .i64 n, .int .i64 m, .slice p K.length c] 29)).alloc (.cells #[.string ⟨#[111, 114]⟩, .string ⟨#[40]⟩] 9)) by
        have := OwnR.lit (S := SB) (w.alloc (.cells #[.int .i64 10, .int .i64 n, .int .i64 m, .slice p K.length c] 29)) 9 [bs (opW 10), bs [40]] (by show 2 ≤ _; unfold maxLen; omega)
        rw [World.size_alloc] at this
        exact ⟨this.mono (Nat.le_succ _), balloc (Nat.le_refl _) HB0.out _⟩)
      rw [HT.out]
      clear h hl hE ih hat hfL B0 hs
      go_enter Tryz.func101, Tryz.ntmps101
      go_wp2
      go_loopw [4, 48] (fun v i wr => ∃ j : Nat, j ≤ K.length ∧ i = .int .i64 j ∧ OwnR SB wr 9 w.heap.size v ((opW 10 :: [40] :: textL (K.take j)).map bs) ∧ Below w.heap.size w wr) (fun _ i _ => K.length - (intOf i).toNat)
      case atStart => exact ⟨0, Nat.zero_le _, rfl, HL.out⟩
      case round =>
        obtain ⟨wo, rfl⟩ : ∃ wo : World, wo = wr := ⟨_, rfl⟩
        obtain ⟨j, hj, rfl, hO, hb⟩ := hrel
        have HO := Lib.hid hO
        have HB := Lib.hid hb
        have hj0 : (0 : Int) ≤ (j : Int) := Int.natCast_nonneg _
        by_cases hlt : j < K.length
        · have hj1 : (j : Int) < (K.length : Int) := by omega
          obtain ⟨e, b, off, k, rfl, rfl, hbl, hcs, hv⟩ := (HA.out.below hb).kid hlt
          obtain ⟨c0, c1, c2, c3⟩ := hcs
          have hkj := textL_len (List.getElem_mem hlt)
          have HS := Lib.hid (textL_succ K j hlt)
          have hlj := textL_take K (j + 1)
          rw [HS.out, List.length_append] at hlj
          have HK := Lib.hid (IH.out e (by omega) k K[j] _ (hv.below ((Below.refl _ _).alloc (Nat.le_refl _) (.cells #[.int .i64 k.op, .int .i64 k.num, .int .i64 k.more, .slice k.p k.n k.c] 29))) (form_mem HFL.out j hlt) (by omega) (HE.out _ (balloc (Nat.le_refl _) hb _)))
          have HB1 := Lib.hid (balloc (Nat.le_refl _) hb (.cells #[.int .i64 k.op, .int .i64 k.num, .int .i64 k.more, .slice k.p k.n k.c] 29))
          have HO1 := Lib.hid (hO.below ((Below.refl _ _).alloc (Nat.le_refl _) (.cells #[.int .i64 k.op, .int .i64 k.num, .int .i64 k.more, .slice k.p k.n k.c] 29)))
          have hsz := hb.size
          clear hv hO hb
          go_wp2_with (first
            | (go_at_call 101; (with_reducible refine Calls.mono HK.out ?_); rintro e w1 ⟨q, cc, rfl, hO2, hb1⟩; have HO2 := Lib.hid hO2.src.2; have HB2 := Lib.hid (bstep (Nat.le_refl _) HB1.out hb1); have HO3 := Lib.hid (HO1.out.below hb1); have hz1 := hb1.size; simp only [World.size_alloc] at hz1; clear hb1 hO2)
            | (at_builtin; (refine OwnR.appendAll el_str rfl (.tmp 52) (.tmp 54) rfl w.heap.size _ ((opW 10 :: [40] :: textL (K.take j)).map bs) ((textW K[j]).map bs) q cc (textW K[j]).length (List.length_map _) HO3.out HO2.out.1 HO2.out.2 rfl rfl (by omega) (by simp; omega) (by decide) ?_); intro v2 w2 hO4 hap4; have HO4 := Lib.hid hO4; have HB4 := Lib.hid (HB2.out.trans hap4.below); clear hO4 hap4)
            | fail)
          go_roundw
          case rel => exact ⟨j + 1, by omega, by go_num, by rw [HS.out, ← List.cons_append, ← List.cons_append, List.map_append]; exact HO4.out, HB4.out⟩
          case measure => simp [intOf]; omega
        · obtain rfl : j = K.length := by omega
          rw [List.take_length] at HO
          have HB1 := Lib.hid (balloc (Nat.le_refl _) hb (.cells #[.string ⟨#[41]⟩] 9))
          have HO1 := Lib.hid (HO.out.below ((Below.refl _ _).alloc (Nat.le_refl _) (.cells #[.string ⟨#[41]⟩] 9)))
          have HS1 := Lib.hid (Recs.lit (S := SB) wo 9 [bs [41]] (by show 1 ≤ _; unfold maxLen; omega))
          have hsz := hb.size
          clear hO hb
          go_wp2_with (first
            | (at_builtin; (refine OwnR.appendAll el_str rfl (.tmp 57) (.tmp 58) rfl w.heap.size _ ((opW 10 :: [40] :: textL K).map bs) [bs [41]] (some ⟨wo.heap.size, 0, none⟩) 1 1 rfl HO1.out HS1.out (fun h => by cases h) rfl rfl (by simp; omega) (by simp; omega) (by decide) ?_); intro v2 w2 hO4 hap4; have HO4 := Lib.hid hO4; have HB4 := Lib.hid (HB1.out.trans hap4.below); clear hO4 hap4)
            | fail)
          go_ret
          refine TxG.own HB4.out ?_
          rw [← List.cons_append, ← List.cons_append, List.map_append]
          exact HO4.out

end Go.Proofs.YtflcdkibjakciaaGreatDoor
