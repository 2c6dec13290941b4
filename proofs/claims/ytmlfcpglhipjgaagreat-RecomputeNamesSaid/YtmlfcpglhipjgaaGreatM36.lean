/-
  PACKED (pack8.py): what is needed of the texts Na.
-/
import Derived.Test.YtmlfcpglhipjgaaGreatM34
import Derived.Test.YtmlfcpglhipjgaaGreatM35
open Go.Value renaming int → I
open Go.IntKind renaming i64 → O
namespace Go.Proofs.YtmlfcpglhipjgaaGreat
open Go.RowKit Sc As
theorem ofInt_wrap64 (n : Int) : BitVec.ofInt 64 (IntKind.i64.wrap n) = BitVec.ofInt 64 n := by
 apply BitVec.eq_of_toNat_eq
 rw [BitVec.toNat_ofInt, BitVec.toNat_ofInt, IntKind.wrap_i64, show ((2 ^ 64 : Nat) : Int) = 18446744073709551616 from rfl]; omega
theorem xor1_ne (s : Int) : bits .xor .i64 s 1 ≠ s := by
 intro h; have h2 : IntKind.i64.wrap ((BitVec.ofInt 64 s ^^^ BitVec.ofInt 64 1).toNat : Int) = s := h; have h3 := congrArg (BitVec.ofInt 64) h2; rw [ofInt_wrap64, BitVec.ofInt_natCast, BitVec.ofNat_toNat, BitVec.setWidth_eq] at h3; have h4 := congrArg (BitVec.ofInt 64 s ^^^ ·) h3
 simp [← BitVec.xor_assoc] at h4
theorem succ_ne (n : Int) : wrap64 (n + 1) ≠ n := by unfold wrap64; omega
theorem set0_ne {l : List Int} (h : 0 < l.length) {v : Int} (hv : v ≠ l[0]) : l ≠ l.set 0 v := by
 cases l with
 | nil => simp at h
 | cons a t => intro e; exact hv (by simpa using (List.cons.inj e).1.symm)
namespace Re
theorem chTake_none {bs : List Bool} (i : Int) : ∀ {k : Nat}, (∀ j, j < k → bs.getD j false = false) → chTake bs i k = []
 | 0, _ => rfl
 | k + 1, h => by
   unfold chTake; rw [chTake_none i fun j hj => h j (Nat.lt_succ_of_lt hj), h k (Nat.lt_succ_self k)]
   rfl
theorem chTake_one {bs : List Bool} (i : Int) {m : Nat} (hm : bs.getD m false = true) : ∀ {k : Nat}, m < k → (∀ j, j < k → j ≠ m → bs.getD j false = false) → chTake bs i k = [⟨2 + m, i⟩]
 | 0, h, _ => absurd h (by omega)
 | k + 1, h, ho => by
   unfold chTake
   by_cases e : m = k
   ·subst e
    rw [chTake_none i fun j hj => ho j (Nat.lt_succ_of_lt hj) (by omega), hm]; rfl
   ·rw [chTake_one i hm (by omega) fun j hj hn => ho j (Nat.lt_succ_of_lt hj) hn, ho k (Nat.lt_succ_self k) (Ne.symm e)]; rfl
theorem lineCh_self (x : LineF) (i : Int) : lineCh x x i = [] := by
 refine chTake_none i fun j hj => ?_
 unfold lineB
 match j, hj with
 | 0, _ => simp
 | 1, _ => simp
 | 2, _ => simp
 | 3, _ => simp
 | 4, _ => simp
theorem linesCh_self (X : List LineF) : ∀ k, linesCh X X k = []
 | 0 => rfl
 | k + 1 => by unfold linesCh; rw [linesCh_self X k, lineCh_self]; rfl
theorem farmCh_self (x : FarmF) : farmCh x x = [] := by
 unfold farmCh dayCh lenCh; rw [if_pos rfl, if_pos rfl, linesCh_self]; rfl
theorem farmCh_day {f d e : Int} {X : List LineF} (h : d ≠ e) : farmCh ⟨f, d, X⟩ ⟨f, e, X⟩ = [⟨1, -1⟩] := by
 unfold farmCh dayCh lenCh; rw [if_neg h, if_pos rfl, linesCh_self]; rfl
theorem linesCh_set {X : List LineF} {k : Nat} {y : LineF} {c : Chg} (hk : k < X.length) (h : lineCh X[k] y (k : Int) = [c]) : ∀ {n : Nat}, n ≤ X.length → linesCh X (X.set k y) n = if k < n then [c] else []
 | 0, _ => rfl
 | n + 1, hn => by
   have e1 : X.getD n line0 = X[n] := by rw [List.getD_eq_getElem?_getD, List.getElem?_eq_getElem (by omega)]; rfl
   have e2 : (X.set k y).getD n line0 = if k = n then y else X[n] := by
    rw [List.getD_eq_getElem?_getD, List.getElem?_set, List.getElem?_eq_getElem (by omega : n < X.length)]
    by_cases e : k = n
    ·rw [if_pos e, if_pos e, if_pos (by omega)]; rfl
    ·rw [if_neg e, if_neg e]; rfl
   unfold linesCh; rw [linesCh_set hk h (by omega : n ≤ X.length), e1, e2]
   by_cases e : k = n
   ·subst e
    rw [if_neg (by omega), if_pos rfl, if_pos (by omega), h]; rfl
   ·rw [if_neg e, lineCh_self, List.append_nil]
    by_cases e2 : k < n
    ·rw [if_pos e2, if_pos (by omega)]
    ·rw [if_neg e2, if_neg (by omega)]
theorem farmCh_set {f d : Int} {X : List LineF} {k : Nat} {y : LineF} {c : Chg} (hk : k < X.length) (h : lineCh X[k] y (k : Int) = [c]) : farmCh ⟨f, d, X⟩ ⟨f, d, X.set k y⟩ = [c] := by
 unfold farmCh dayCh lenCh; simp only [List.length_set, Nat.min_self, if_true]; rw [linesCh_set hk h mle, if_pos hk]; rfl
theorem farmCh_push {f d : Int} {X : List LineF} {y : LineF} : farmCh ⟨f, d, X⟩ ⟨f, d, X ++ [y]⟩ = [⟨7, -1⟩] := by
 have h : ∀ n, n ≤ X.length → linesCh X (X ++ [y]) n = [] := by
  intro n
  induction n with
  | zero => intro _; rfl
  | succ n ih =>
    intro hn; have e1 : X.getD n line0 = X[n] := by rw [List.getD_eq_getElem?_getD, List.getElem?_eq_getElem (by omega)]; rfl
    have e2 : (X ++ [y]).getD n line0 = X[n] := by rw [List.getD_eq_getElem?_getD, List.getElem?_append_left (by omega), List.getElem?_eq_getElem (by omega : n < X.length)]; rfl
    unfold linesCh; rw [ih (by omega), e1, e2, lineCh_self]; rfl
 unfold farmCh dayCh lenCh; simp only [lap, List.length_singleton, if_true]; rw [Nat.min_eq_left (by omega), h _ mle, if_neg (by omega)]; rfl
theorem line_decl (x : LineF) {v : Int} (i : Int) (h : x.decl ≠ v) : lineCh x { x with decl := v } i = [⟨2, i⟩] :=
 chTake_one (m := 0) i (by simp [lineB, h]) (by omega) fun j hj hn => by
  match j, hj, hn with
  | 1, _, _ => simp [lineB]
  | 2, _, _ => simp [lineB]
  | 3, _, _ => simp [lineB]
  | 4, _, _ => simp [lineB]
theorem line_sch (x : LineF) {v : Int} (i : Int) (h : x.sch ≠ v) : lineCh x { x with sch := v } i = [⟨3, i⟩] :=
 chTake_one (m := 1) i (by simp [lineB, h]) (by omega) fun j hj hn => by
  match j, hj, hn with
  | 0, _, _ => simp [lineB]
  | 2, _, _ => simp [lineB]
  | 3, _, _ => simp [lineB]
  | 4, _, _ => simp [lineB]
theorem line_due (x : LineF) {v : List Int} (i : Int) (h : x.due ≠ v) : lineCh x { x with due := v } i = [⟨4, i⟩] :=
 chTake_one (m := 2) i (by simp [lineB, h]) (by omega) fun j hj hn => by
  match j, hj, hn with
  | 0, _, _ => simp [lineB]
  | 1, _, _ => simp [lineB]
  | 3, _, _ => simp [lineB]
  | 4, _, _ => simp [lineB]
theorem line_season (x : LineF) {v : Int} (i : Int) (h : x.season ≠ v) : lineCh x { x with season := v } i = [⟨5, i⟩] :=
 chTake_one (m := 3) i (by simp [lineB, h]) (by omega) fun j hj hn => by
  match j, hj, hn with
  | 0, _, _ => simp [lineB]
  | 1, _, _ => simp [lineB]
  | 2, _, _ => simp [lineB]
  | 4, _, _ => simp [lineB]
theorem line_border (x : LineF) {v : Int} (i : Int) (h : x.border ≠ v) : lineCh x { x with border := v } i = [⟨6, i⟩] :=
 chTake_one (m := 4) i (by simp [lineB, h]) (by omega) fun j hj hn => by
  rcases (by omega : j = 0 ∨ j = 1 ∨ j = 2 ∨ j = 3) with rfl | rfl | rfl | rfl <;> simp [lineB]
end Re
section
variable {Q : Nat → Prop} {W : World} {g n c k : Nat} {p : Option Addr} {L : List RL} {X : List LineF}
theorem SepR.fld (h : SepR SL LVw 68 0 Q W (.slice (some ⟨g, 0, none⟩) n c) L X) (hk : k < L.length) (hk' : k < X.length) {i : Nat} (hi : i < 7) {u : Value} (a : RL) (x : LineF) (ha : lCells a = (lCells L[k]).set i u)
  (hx : ∀ φ W, LVw φ W L[k] X[k] → LVw φ W a x) : SepR SL LVw 68 0 Q (W.setCell ⟨g, k * 7 + i, none⟩ u) (.slice (some ⟨g, 0, none⟩) n c) (L.set k a) (X.set k x) := by
 obtain ⟨φ, h1, h2, h3⟩ := h.upd LVw.chgs hk hk'; obtain ⟨g', e, -, -, -, -, -, hst⟩ := h.own.at hk
 cases e
 have hsz : (W.setCell ⟨g, k * 7 + i, none⟩ u).heap.size = W.heap.size := setCell_sz _ _ _; have far : ∀ b, b ≠ g → (W.setCell ⟨g, k * 7 + i, none⟩ u).heap[b]? = W.heap[b]? := fun b hb => setCell_far _ hb _ _
 exact h3 _ a x φ Q (by rw [hsz]; exact Nat.le_refl _) (hst i _ _ hi ha) (hx _ _ (LVw.chgs _ _ _ _ _ _ h1 (by rw [hsz]; exact Nat.le_refl _) fun b q _ => ⟨far b fun e => (h2 b q).2 (by rw [e]; rfl), q⟩)) (fun b q => ⟨.inl q, (h2 b q).1⟩) fun b q _ => ⟨fun _ hn => far b (fun e => hn (by rw [e]; rfl)), q⟩
theorem SepR.due0 (h : SepR SL LVw 68 0 Q W (.slice p n c) L X) (hk : k < L.length) (hk' : k < X.length) (hd : 0 < X[k].due.length) :
  ∃ gd, L[k].dp = some ⟨gd, 0, none⟩ ∧ L[k].dn = X[k].due.length ∧ Q gd ∧ W.cell? ⟨gd, 0, none⟩ = some (I O X[k].due[0]) ∧ W.frozen? ⟨gd, 0, none⟩ = false ∧
    ∀ v : Int, SepR SL LVw 68 0 Q (W.setCell ⟨gd, 0, none⟩ (I O v)) (.slice p n c) L (X.set k { X[k] with due := X[k].due.set 0 v }) := by
 obtain ⟨φ, h1, h2, h3⟩ := h.upd LVw.chgs hk hk'; obtain ⟨hl, ho, hq⟩ := h1; obtain ⟨gd, e, en, -, -, hc, hf, hst⟩ := ho.at hd; have qd := h2 gd (hq gd (by rw [e]; rfl)); refine ⟨gd, e, hl.dn, qd.1, hc 0 _ rfl, hf 0, fun v => ?_⟩; have hsz : (W.setCell ⟨gd, 0, none⟩ (I O v)).heap.size = W.heap.size := setCell_sz _ _ _; have far : ∀ b, b ≠ gd → (W.setCell ⟨gd, 0, none⟩ (I O v)).heap[b]? = W.heap[b]? := fun b hb => setCell_far _ hb _ _
 have hO := hst 0 (I O v) v (by show 0 < 1; omega) rfl; have hL : OwnR SL (W.setCell ⟨gd, 0, none⟩ (I O v)) 68 0 (.slice p n c) L := h.own.blocks fun g eg _ _ => far g fun e => qd.2 (by rw [eg, e])
 obtain ⟨p', c', e', g1, g2, g3, -, g5⟩ := hO.cut (n := X[k].due.length) (by rw [List.length_set]); have := h3 (W.setCell ⟨gd, 0, none⟩ (I O v)) L[k] { X[k] with due := X[k].due.set 0 v } φ Q (by rw [hsz]; exact Nat.le_refl _) (by rw [List.set_getElem_self]; exact hL) ?_ (fun b q => ⟨.inl q, (h2 b q).1⟩) fun b q _ => ⟨fun hn _ => far b fun e2 => hn (hq b (by rw [e, e2]; rfl)), q⟩
 ·rwa [List.set_getElem_self] at this
 ·refine ⟨⟨hl.decl, hl.sch, ?_, ?_, hl.dc, hl.dz, fun a ea => .inr (hq _ (by rw [ea]; rfl)), hl.season, hl.kind, hl.area, hl.border⟩, hO, hq⟩
  ·obtain ⟨ep, -, -⟩ := Value.slice.inj e'
   exact ep ▸ g5.ints
  ·show _ = (X[k].due.set 0 v).length
   rw [List.length_set]; exact hl.dn
end
theorem OwnR.appendWp {α : Type} {S : Shape α} {P : Program} {T TS : TypeId} {bytes : Nat} (he : Elem S P T TS bytes) {w : World} {o : Oper} {a : Act} {K : Act → World → Prop} {Q : Exit → Act → World → Prop} (s x : Operand)
  (ho : o.op = .call { callee := .builtin .append, args := #[s, x], argTypes := #[TS, TS] }) (B : Nat) (v : Value) (L : List α) (y : α) (cs : Array Value) (hcs : cs.toList = S.cells y) (hown : OwnR S w T B v L) (hs : a.eval s = v)
  (hx : a.eval x = .slice (some ⟨w.heap.size, 0, none⟩) 1 1) (hB : B ≤ w.heap.size) (hn : L.length < 1073741824) (hby : bytes ≤ 65536)
  (h : ∀ v' w', OwnR S w' T B v' (L ++ [y]) → Appends w w' B (w.heap.size + 1) v v' → K (a.put o.dst v') w') : o.wp P a (w.alloc (.cells cs T)) K Q := by
 obtain ⟨i0, z, e1, e2, e3, e4, e5⟩ := he.ex; have hb2 : (L.length + 1) * bytes ≤ 1073741824 * 65536 := Nat.mul_le_mul (by omega) hby
 obtain ⟨v', w', hr, h1, h2, -, h4⟩ := run_append_own_at (P := P) (w := w.alloc (.cells cs T)) B TS o.type T i0 z S.k bytes he.ts e1 e2 e3 e4 e5 S.pos v L.length (S.flat L) (World.ownsRow.alloc hown _) ⟨w.heap.size, 0, none⟩ 1 1 (S.cells y) (by rw [S.len]; omega) (fun j u hu => by
  rw [Go.WideShapes.add_plain, Nat.zero_add, cwn]; rw [← hcs] at hu
  simpa using hu) (S.one y) (by unfold maxLen; omega) (by omega) (by simp; omega)
 unfold Oper.wp execOp; simp only [ho, resolve, invoke, builtin, Sem.run_bind, Sem.run_pure, Result.andThen_ok, List.map_toArray, List.map_cons, List.map_nil, hs, hx, hr]; refine h v' w' ?_ ⟨(((brf B w).alloc hB _).grown h2 (by simp; omega) fun k hk => (World.ownsRow.lt hown k hk).1), ?_, fun k hk hne => ?_, by rw [World.size_alloc] at h4; exact h4⟩
 ·unfold OwnR
  rw [lap, S.flat_append, S.flat_single]; exact h1
 ·have := h2.size
  rw [World.size_alloc] at this; omega
 ·rw [h2.block k (by rw [World.size_alloc]; omega) (fun e => hne e.symm)]
  exact (((brf w.heap.size w).alloc mle _).block k hk)
structure NmI (w W : World) (B gf gg gw : Nat) (X : List LineF) (pl : Option Addr) (day : Int) (v : Value) (L : List RL) (K : List LineF) (kd ln : Int) : Prop where
 fb : Blk W gf #[I O 2, I O 9, .slice pl 2 2] 47
 gb : Blk W gg #[I O 2, I O day, v] 47
 wb : Blk W gw #[I O kd, I O ln] 91
 fs : LsAt (fun b => b < B ∧ b ≠ gf) W pl X
 gs : SepR SL LVw 68 0 (fun b => B ≤ b ∧ b < gg) W v L K
 low : Below w.heap.size w W
 o : w.heap.size ≤ B ∧ gf < B ∧ B ≤ gg ∧ gg < gw ∧ w.heap.size ≤ gf
section
variable {w W : World} {B gf gg gw k g n c : Nat} {X K : List LineF} {pl p : Option Addr} {dy kd ln : Int} {v : Value} {L : List RL}
theorem NmI.below {W' : World} (h : NmI w W B gf gg gw X pl dy v L K kd ln) (hb : Below W.heap.size W W') : NmI w W' B gf gg gw X pl dy v L K kd ln :=
 ⟨h.fb.below hb, h.gb.below hb, h.wb.below hb, h.fs.below hb, h.gs.change LVw.chgs hb.size fun b k hl => ⟨hb.block b hl, k⟩, h.low.trans (hb.mono h.low.size), h.o⟩
theorem NmI.setDay (h : NmI w W B gf gg gw X pl dy v L K kd ln) (d : Int) : NmI w (W.setCell ⟨gg, 1, none⟩ (I O d)) B gf gg gw X pl d v L K kd ln := by
 obtain ⟨o1, o2, o3, o4, o5⟩ := h.o; have hsz : (W.setCell ⟨gg, 1, none⟩ (I O d)).heap.size = W.heap.size := setCell_sz _ _ _; exact ⟨h.fb.far (by omega) _, h.gb.set 1 _, h.wb.far (by omega) _, h.fs.change (by rw [hsz]; exact Nat.le_refl _) fun b k _ => ⟨setCell_far _ (by omega) _ _, k⟩, h.gs.change LVw.chgs (by rw [hsz]; exact Nat.le_refl _) fun b k _ => ⟨setCell_far _ (by omega) _ _, k⟩, h.low.setCell (p := ⟨gg, 1, none⟩) (by show _ ≤ gg; omega) _, h.o⟩
theorem NmI.setLn (h : NmI w W B gf gg gw X pl dy v L K kd ln) (d : Int) : NmI w (W.setCell ⟨gw, 1, none⟩ (I O d)) B gf gg gw X pl dy v L K kd d := by
 obtain ⟨o1, o2, o3, o4, o5⟩ := h.o; have hsz : (W.setCell ⟨gw, 1, none⟩ (I O d)).heap.size = W.heap.size := setCell_sz _ _ _; exact ⟨h.fb.far (by omega) _, h.gb.far (by omega) _, h.wb.set 1 _, h.fs.change (by rw [hsz]; exact Nat.le_refl _) fun b k _ => ⟨setCell_far _ (by omega) _ _, k⟩, h.gs.change LVw.chgs (by rw [hsz]; exact Nat.le_refl _) fun b k _ => ⟨setCell_far _ (by omega) _ _, k⟩, h.low.setCell (p := ⟨gw, 1, none⟩) (by show _ ≤ gw; omega) _, h.o⟩
theorem NmI.put (h : NmI w W B gf gg gw X pl dy v L K kd ln) {b i : Nat} {u : Value} {L' : List RL} {K' : List LineF} (hb : B ≤ b ∧ b < gg) (hg : SepR SL LVw 68 0 (fun b => B ≤ b ∧ b < gg) (W.setCell ⟨b, i, none⟩ u) v L' K') : NmI w (W.setCell ⟨b, i, none⟩ u) B gf gg gw X pl dy v L' K' kd ln := by
 obtain ⟨o1, o2, o3, o4, o5⟩ := h.o; have hsz : (W.setCell ⟨b, i, none⟩ u).heap.size = W.heap.size := setCell_sz _ _ _; exact ⟨h.fb.far (by omega) _, h.gb.far (by omega) _, h.wb.far (by omega) _, h.fs.change (by rw [hsz]; exact Nat.le_refl _) fun b' k _ => ⟨setCell_far _ (by omega) _ _, k⟩, hg, h.low.setCell (p := ⟨b, i, none⟩) (by show _ ≤ b; omega) _, h.o⟩
theorem NmI.fld (h : NmI w W B gf gg gw X pl dy (.slice (some ⟨g, 0, none⟩) n c) L K kd ln) (hk : k < L.length) (hk' : k < K.length) {i : Nat} (hi : i < 7) {u : Value} (a : RL) (x : LineF) (ha : lCells a = (lCells L[k]).set i u)
  (hx : ∀ φ W, LVw φ W L[k] K[k] → LVw φ W a x) : NmI w (W.setCell ⟨g, k * 7 + i, none⟩ u) B gf gg gw X pl dy (.slice (some ⟨g, 0, none⟩) n c) (L.set k a) (K.set k x) kd ln :=
 h.put (h.gs.oq g rfl) (h.gs.fld hk hk' hi a x ha hx)
theorem NmI.at (h : NmI w W B gf gg gw X pl dy (.slice p n c) L K kd ln) (hk : k < L.length) : ∃ g, p = some ⟨g, 0, none⟩ ∧ n = L.length ∧ n ≤ c ∧ (∀ i u, (lCells L[k])[i]? = some u → W.cell? ⟨g, k * 7 + i, none⟩ = some u) ∧ (∀ i, W.frozen? ⟨g, i, none⟩ = false) ∧ ∃ φ, LVw φ W L[k] (K[k]'(h.gs.hl ▸ hk)) := by
 obtain ⟨g, e, en, -, -, hc, hf, -⟩ := h.gs.own.at hk; obtain ⟨p', c', e', -, -, g3, -, -⟩ := h.gs.own.cut (n := L.length) rfl; obtain ⟨-, e1, e2⟩ := Value.slice.inj e'; obtain ⟨φ, h1, -, -⟩ := h.gs.upd LVw.chgs hk (h.gs.hl ▸ hk); exact ⟨g, e, en, by rw [e2, e1]; exact g3, hc, hf, φ, h1⟩
theorem NmI.fv (h : NmI w W B gf gg gw X pl dy v L K kd ln) (hX : X.length = 2) (hp : pl ≠ none) : FV (fun b => b < B ∧ b ≠ gf) W ⟨2, 9, pl, 2, 2⟩ ⟨2, 9, X⟩ := ⟨rfl, rfl, h.fs, hX.symm, Nat.le_refl _, fun e => absurd e hp⟩
theorem NmI.gv (h : NmI w W B gf gg gw X pl dy (.slice p n c) L K kd ln) : FV (fun b => B ≤ b ∧ b < gg) W ⟨2, dy, p, n, c⟩ ⟨2, dy, K⟩ := by
 obtain ⟨h1, h2, h3, h4⟩ := (h.gs.map fun _ _ _ _ h => h.1).lines; exact ⟨rfl, rfl, h1, h2, h3, h4⟩
def NmE (w W : World) (gf gg gw : Nat) (X : List LineF) (pl : Option Addr) : Prop :=
 ∃ (dy : Int) (p : Option Addr) (n c : Nat) (K : List LineF) (kd ln : Int), Blk W gf #[I O 2, I O 9, .slice pl 2 2] 47 ∧ Blk W gg #[I O 2, I O dy, .slice p n c] 47 ∧ Blk W gw #[I O kd, I O ln] 91 ∧
   FV (fun _ => True) W ⟨2, 9, pl, 2, 2⟩ ⟨2, 9, X⟩ ∧ FV (fun _ => True) W ⟨2, dy, p, n, c⟩ ⟨2, dy, K⟩ ∧ K.length ≤ 1000 ∧ Below w.heap.size w W ∧ Re.farmCh ⟨2, 9, X⟩ ⟨2, dy, K⟩ = [⟨kd, ln⟩]
theorem NmI.e (h : NmI w W B gf gg gw X pl dy (.slice p n c) L K kd ln) (hX : X.length = 2) (hp : pl ≠ none) (hK : K.length ≤ 1000) (hc : Re.farmCh ⟨2, 9, X⟩ ⟨2, dy, K⟩ = [⟨kd, ln⟩]) : NmE w W gf gg gw X pl :=
 ⟨dy, p, n, c, K, kd, ln, h.fb, h.gb, h.wb, (h.fv hX hp).change mle fun _ _ _ => ⟨rfl, trivial⟩, h.gv.change mle fun _ _ _ => ⟨rfl, trivial⟩, hK, h.low, hc⟩
theorem OwnR.up {α : Type} {S : Shape α} {w : World} {T : TypeId} {B : Nat} {v : Value} {L : List α} (h : OwnR S w T 0 v L) (hq : ∀ g, v.ownBlock = some g → B ≤ g) : OwnR S w T B v L := by
 rcases h.2 with ⟨hv, hn⟩ | ⟨g, cap, cur, hv, -, hr⟩
 ·exact ⟨h.1, .inl ⟨hv, hn⟩⟩
 ·exact ⟨h.1, .inr ⟨g, cap, cur, hv, hq g (by rw [hv]; rfl), hr⟩⟩
theorem NmI.own (h : NmI w W B gf gg gw X pl dy v L K kd ln) : OwnR SL W 68 w.heap.size v L := h.gs.own.up fun g e => by have := (h.gs.oq g e).1; have := h.o.1; omega
theorem NmI.far {w5 : World} {v5 : Value} {R : List RL} {H : Nat} (h : NmI w W B gf gg gw X pl dy v L K kd ln) (ha : Appends W w5 w.heap.size H v v5) (_hO : OwnR SL w5 68 w.heap.size v5 R) : Blk w5 gg #[I O 2, I O dy, v] 47 ∧ Blk w5 gw #[I O kd, I O ln] 91 := by
 obtain ⟨o1, o2, o3, o4, o5⟩ := h.o; have hv : ∀ b, v.ownBlock = some b → B ≤ b ∧ b < gg := fun b e => h.gs.oq b e
 exact ⟨(ha.far gg h.gb.lt fun e => by have := hv _ e; omega).trans h.gb, (ha.far gw h.wb.lt fun e => by have := hv _ e; omega).trans h.wb⟩
theorem NmI.push {w5 : World} {v5 : Value} {H : Nat} {r0 : RL} (h : NmI w W B gf gg gw X pl 9 v L X 7 ln) (hX : X.length = 2) (hp : pl ≠ none) (h0 : 0 < L.length) (hr : L[0] = r0) (hO : OwnR SL w5 68 w.heap.size v5 (L ++ [r0])) (ha : Appends W w5 w.heap.size H v v5) (hH : W.heap.size ≤ H) :
  ∃ p c, v5 = .slice p 3 c ∧ NmE w ((w5.setCell ⟨gg, 2, none⟩ v5).setCell ⟨gw, 1, none⟩ (I O (-1))) gf gg gw X pl := by
 obtain ⟨o1, o2, o3, o4, o5⟩ := h.o; have hv : ∀ b, v.ownBlock = some b → B ≤ b ∧ b < gg := fun b e => h.gs.oq b e
 have hlL : L.length = 2 := h.gs.hl.trans hX; obtain ⟨b1, b2⟩ := h.far ha hO; have hgg := h.gb.lt; have hgw := h.wb.lt; have n1 : v5.ownBlock ≠ some gg := ha.apart hH hgg fun e => by have := hv _ e; omega
 have n2 : v5.ownBlock ≠ some gw := ha.apart hH hgw fun e => by have := hv _ e; omega
 obtain ⟨p, c, e, g1, g2, g3, -, g5⟩ := hO.cut (n := 3) (by rw [lap, hlL]; rfl); subst e; have hX0 : 0 < X.length := by omega
 obtain ⟨y0, ey⟩ : ∃ y, X[0]'hX0 = y := ⟨_, rfl⟩; have hsz : ((w5.setCell ⟨gg, 2, none⟩ (.slice p 3 c)).setCell ⟨gw, 1, none⟩ (I O (-1))).heap.size = w5.heap.size := by rw [setCell_sz, setCell_sz]
 have fr : ∀ b, b ≠ gg → b ≠ gw → ((w5.setCell ⟨gg, 2, none⟩ (.slice p 3 c)).setCell ⟨gw, 1, none⟩ (I O (-1))).heap[b]? = w5.heap[b]? := fun b e1 e2 => by rw [setCell_far _ e2, setCell_far _ e1]
 refine ⟨p, c, rfl, 9, p, 3, c, X ++ [y0], 7, -1, ?_, (b1.set 2 _).far (by omega) _, (b2.far (by omega) _).set 1 _, ?_, ?_, by rw [lap, hX]; simp, ?_, ?_⟩
 ·exact (fr gf (by omega) (by omega)).trans ((ha.far gf h.fb.lt fun e => by have := hv _ e; omega).trans h.fb)
 ·exact (h.fv hX hp).change (by rw [hsz]; exact ha.size) fun b q hl => ⟨(fr b (by omega) (by omega)).trans (ha.far b hl fun e => by have := hv _ e; omega), trivial⟩
 ·obtain ⟨-, -, h3, φ, h4, h5, h6⟩ := h.gs
  refine ⟨rfl, rfl, ⟨⟨L ++ [r0], by rw [lap, lap, hlL, hX]; rfl, g5.blocks (by rw [hsz]; exact Nat.le_refl _) fun a ea => .inr (fr _ (fun e => ?_) fun e => ?_), fun k a b => ?_⟩, fun a ea => .inr trivial⟩, ?_, g3, fun e => (g1 e).1⟩
  ·obtain ⟨s1, s2, -, -⟩ := g2 a ea
   exact n1 (by rw [ea]; obtain ⟨x, y, z⟩ := a; simp only at s1 s2 e; subst s1 s2 e; rfl)
  ·obtain ⟨s1, s2, -, -⟩ := g2 a ea
   exact n2 (by rw [ea]; obtain ⟨x, y, z⟩ := a; simp only at s1 s2 e; subst s1 s2 e; rfl)
  ·have key : ∀ j (h1 : j < L.length) (h2 : j < X.length), LV (fun _ => True) ((w5.setCell ⟨gg, 2, none⟩ (.slice p 3 c)).setCell ⟨gw, 1, none⟩ (I O (-1))) L[j] X[j] := fun j h1 h2 => by
    refine (h4 j h1 h2).1.change (by rw [hsz]; exact ha.size) fun b q hl => ⟨?_, trivial⟩
    have := h5 j b q; exact (fr b (by omega) (by omega)).trans (ha.far b hl this.2)
   by_cases hk : k < L.length
   ·have hk2 : k < X.length := by omega
    rw [List.getElem_append_left hk, List.getElem_append_left hk2]; exact key k hk hk2
   ·obtain rfl : k = 2 := by rw [lap, hlL] at a; simp at a; omega
    rw [List.getElem_append_right (by omega), List.getElem_append_right (by omega)]; simp only [hlL, hX, Nat.sub_self, List.getElem_cons_zero]; rw [← hr, ← ey]; exact key 0 h0 hX0
  ·show 3 = (X ++ [y0]).length
   rw [lap, hX]; rfl
 ·have hB : Below w.heap.size W w5 := ha.below
  exact ((h.low.trans hB).setCell (p := ⟨gg, 2, none⟩) (by show _ ≤ gg; omega) _).setCell (p := ⟨gw, 1, none⟩) (by show _ ≤ gw; omega) _
 ·exact Re.farmCh_push
end
end Go.Proofs.YtmlfcpglhipjgaaGreat
