/-
  PACKED (pack8.py): what is needed of the texts Xt, Xl, Xm, Xu.
-/
import Derived.Test.YtmlfcpglhipjgaaGreatM30
set_option maxRecDepth 100000
set_option maxHeartbeats 8000000
open Go.Value renaming int → I
open Go.IntKind renaming i64 → O
namespace Go.Proofs.YtmlfcpglhipjgaaGreat
open Go.RowKit Sc As
structure SepR {ρ β : Type} (S : Shape ρ) (V : (Nat → Prop) → World → ρ → β → Prop) (T : TypeId) (B : Nat) (Q : Nat → Prop) (W : World) (v : Value) (R : List ρ) (K : List β) : Prop where
 hl : R.length = K.length
 own : OwnR S W T B v R
 oq : ∀ g, v.ownBlock = some g → Q g
 rows : ∃ φ : Nat → Nat → Prop, (∀ k (h : k < R.length) (h' : k < K.length), V (φ k) W R[k] K[k]) ∧ (∀ k b, φ k b → Q b ∧ v.ownBlock ≠ some b) ∧ ∀ j k b, j ≠ k → φ j b → ¬ φ k b
section
variable {ρ β : Type} {S : Shape ρ} {V V2 : (Nat → Prop) → World → ρ → β → Prop} {T : TypeId} {B t G : Nat} {Q Q' : Nat → Prop} {W w' w5 w6 : World} {v v6 : Value} {R : List ρ} {K : List β} {r : ρ} {x : β}
theorem SepR.nil (S : Shape ρ) (V : (Nat → Prop) → World → ρ → β → Prop) (T : TypeId) (B : Nat) (Q : Nat → Prop) (W : World) : SepR S V T B Q W (.slice none 0 0) [] [] :=
 ⟨rfl, OwnR.nil _ _ _, (fun g e => by cases e), fun _ _ => False, (fun k h => by simp at h), (fun _ _ h => h.elim), fun _ _ _ _ h => h.elim⟩
theorem SepR.change (hV : Chgs V) (h : SepR S V T B Q W v R K) (hs : W.heap.size ≤ w'.heap.size) (hb : ∀ b, Q b → b < W.heap.size → w'.heap[b]? = W.heap[b]? ∧ Q' b) : SepR S V T B Q' w' v R K := by
 obtain ⟨h1, h2, h3, φ, h4, h5, h6⟩ := h; refine ⟨h1, h2.blocks fun g hg _ hl => (hb g (h3 g hg) hl).1, fun g hg => (hb g (h3 g hg) (h2.lt hg).2).2, fun k b => φ k b ∧ b < W.heap.size, fun k a c => ?_, fun k b q => ⟨(hb b (h5 k b q.1).1 q.2).2, (h5 k b q.1).2⟩, fun j k b e p q => h6 j k b e p.1 q.1⟩; exact hV _ _ _ _ _ _ (h4 k a c) hs fun b q hl => ⟨(hb b (h5 k b q).1 hl).1, q, hl⟩
theorem SepR.map (hV : ∀ Q W r x, V Q W r x → V2 Q W r x) (h : SepR S V T B Q W v R K) : SepR S V2 T B Q W v R K := by
 obtain ⟨h1, h2, h3, φ, h4, h5, h6⟩ := h; exact ⟨h1, h2, h3, φ, fun k a c => hV _ _ _ _ (h4 k a c), h5, h6⟩
theorem SepR.upd (hV : Chgs V) (h : SepR S V T B Q W v R K) {k : Nat} (hk : k < R.length) (hk' : k < K.length) : ∃ φ : Nat → Prop, V φ W R[k] K[k] ∧ (∀ b, φ b → Q b ∧ v.ownBlock ≠ some b) ∧
  ∀ (w' : World) (a : ρ) (x : β) (φ' Q' : Nat → Prop), W.heap.size ≤ w'.heap.size → OwnR S w' T B v (R.set k a) → V φ' w' a x → (∀ b, φ' b → (φ b ∨ W.heap.size ≤ b) ∧ Q' b) →
    (∀ b, Q b → b < W.heap.size → (¬ φ b → v.ownBlock ≠ some b → w'.heap[b]? = W.heap[b]?) ∧ Q' b) → SepR S V T B Q' w' v (R.set k a) (K.set k x) := by
 obtain ⟨h1, h2, h3, φ, h4, h5, h6⟩ := h; refine ⟨φ k, h4 k hk hk', h5 k, fun w' a x φ' Q' hs hO hv hp hb => ⟨by simp [h1], hO, fun g hg => (hb g (h3 g hg) (h2.lt hg).2).2, fun j b => (j = k ∧ φ' b) ∨ (j ≠ k ∧ φ j b ∧ b < W.heap.size), fun j hj hj' => ?_, fun j b q => ?_, fun i j b e p q => ?_⟩⟩
 ·by_cases e : j = k
  ·subst e
   rw [List.getElem_set_self, List.getElem_set_self]; exact (hV _ _ _ _ _ _ hv mle fun b q _ => ⟨rfl, .inl ⟨rfl, q⟩⟩)
  ·rw [List.getElem_set_ne (Ne.symm e), List.getElem_set_ne (Ne.symm e)]
   rw [List.length_set] at hj hj'; refine hV _ _ _ _ _ _ (h4 j hj hj') hs fun b q hl => ⟨(hb b (h5 j b q).1 hl).1 (h6 j k b e q) (h5 j b q).2, .inr ⟨e, q, hl⟩⟩
 ·rcases q with ⟨rfl, q⟩ | ⟨_, q, hl⟩
  ·refine ⟨(hp b q).2, fun e => ?_⟩
   rcases (hp b q).1 with q | q
   ·exact (h5 j b q).2 e
   ·have := (h2.lt e).2; omega
  ·exact ⟨(hb b (h5 j b q).1 hl).2, (h5 j b q).2⟩
 ·rcases p with ⟨rfl, p⟩ | ⟨ni, p, pl⟩
  ·rcases q with ⟨rfl, q⟩ | ⟨nj, q, ql⟩
   ·exact e rfl
   ·rcases (hp b p).1 with p | p
    ·exact h6 i j b e p q
    ·omega
  ·rcases q with ⟨rfl, q⟩ | ⟨nj, q, ql⟩
   ·rcases (hp b q).1 with q | q
    ·exact h6 i j b e p q
    ·omega
   ·exact h6 i j b e p q
theorem SepR.push (hV : Chgs V) (h : SepR S V T B Q W v R K) (hs : W.heap.size ≤ w5.heap.size) (hb : ∀ b, Q b → b < W.heap.size → w5.heap[b]? = W.heap[b]? ∧ Q' b) (hG : w5.heap.size ≤ G) (hQ : ∀ b, W.heap.size ≤ b → Q' b)
  (hv : V (NewQ W.heap.size) w5 r x) (hO : OwnR S w6 T B v6 (R ++ [r])) (hap : Appends w5 w6 B G v v6) : SepR S V T B Q' w6 v6 (R ++ [r]) (K ++ [x]) := by
 obtain ⟨h1, h2, h3, φ, h4, h5, h6⟩ := h; have hvl : ∀ g, v.ownBlock = some g → g < W.heap.size := fun g e => (h2.lt e).2
 have hap' : ∀ b, b < w5.heap.size → v.ownBlock ≠ some b → v6.ownBlock ≠ some b := fun b hl hn => hap.apart hG hl hn
 refine ⟨by rw [lap, lap, h1]; rfl, hO, fun g hg => ?_, fun j b => (j < R.length ∧ φ j b ∧ b < W.heap.size) ∨ (j = R.length ∧ W.heap.size ≤ b ∧ b < w5.heap.size), fun j a c => ?_, fun j b q => ?_, fun i j b e p q => ?_⟩
 ·rcases hap.block with e | e
  ·rw [e] at hg; exact (hb g (h3 g hg) (hvl g hg)).2
  ·rw [e] at hg; cases hg; exact hQ _ (by omega)
 ·by_cases hlt : j < R.length
  ·rw [List.getElem_append_left hlt, List.getElem_append_left (by rw [← h1]; exact hlt)]
   refine hV _ _ _ _ _ _ (h4 j hlt (by rw [← h1]; exact hlt)) (Nat.le_trans hs hap.size) fun b q hl => ⟨(hap.far b (nll hl hs) (h5 j b q).2).trans (hb b (h5 j b q).1 hl).1, .inl ⟨hlt, q, hl⟩⟩
  ·have ej : j = R.length := by rw [lap] at a; simp at a; omega
   subst ej; rw [List.getElem_append_right mle, List.getElem_append_right (by rw [h1]; exact Nat.le_refl _)]; simp only [Nat.sub_self, h1, List.getElem_cons_zero]; refine hV _ _ _ _ _ _ hv hap.size fun b q hl => ⟨hap.far b hl fun e => by have := hvl b e; unfold NewQ at q; omega, .inr ⟨by simp, q, hl⟩⟩
 ·rcases q with ⟨_, q, hl⟩ | ⟨_, q, hl⟩
  ·exact ⟨(hb b (h5 j b q).1 hl).2, hap' b (nll hl hs) (h5 j b q).2⟩
  ·exact ⟨hQ b q, hap' b hl fun e => by have := hvl b e; omega⟩
 ·rcases p with ⟨pi, p, pl⟩ | ⟨ei, p, pl⟩
  ·rcases q with ⟨qj, q, ql⟩ | ⟨ej, q, ql⟩
   ·exact h6 i j b e p q
   ·omega
  ·rcases q with ⟨qj, q, ql⟩ | ⟨ej, q, ql⟩
   ·omega
   ·omega
end
def LVw (Q : Nat → Prop) (w : World) (r : RL) (x : LineF) : Prop := LV Q w r x ∧ OwnR SI w 3 0 (.slice r.dp r.dn r.dc) x.due ∧ ∀ g, (Value.slice r.dp r.dn r.dc).ownBlock = some g → Q g
theorem LVw.chgs : Chgs LVw := fun _ _ _ _ _ _ h hs hb => ⟨h.1.change hs hb, h.2.1.blocks fun g hg _ hl => (hb g (h.2.2 g hg) hl).1, fun g hg => (hb g (h.2.2 g hg) (h.2.1.lt hg).2).2⟩
structure FVs (V : (Nat → Prop) → World → RL → LineF → Prop) (Q : Nat → Prop) (w : World) (r : RF) (f : FarmF) : Prop where
 farm : r.farm = f.farm
 day : r.day = f.day
 lines : ∃ L : List RL, SepR SL V 68 0 Q w (.slice r.lp r.ln r.lc) L f.lines
theorem FVs.chgs {V : (Nat → Prop) → World → RL → LineF → Prop} (hV : Chgs V) : Chgs (FVs V) := fun _ _ _ _ _ _ h hs hb => ⟨h.farm, h.day, h.lines.imp fun _ h => h.change hV hs hb⟩
theorem SepR.lines {B : Nat} {Q : Nat → Prop} {W : World} {p : Option Addr} {n c : Nat} {R : List RL} {K : List LineF} (h : SepR SL LV 68 B Q W (.slice p n c) R K) : LsAt Q W p K ∧ n = K.length ∧ n ≤ c ∧ (p = none → c = 0) := by
 obtain ⟨h1, h2, h3, φ, h4, h5, h6⟩ := h; obtain ⟨p', c', e, g1, g2, g3, -, g5⟩ := h2.cut (n := K.length) h1
 cases e
 exact ⟨⟨⟨R, h1, g5, fun k a b => (h4 k a b).change mle fun b q _ => ⟨rfl, (h5 k b q).1⟩⟩, fun a e => .inr (h3 a.block (by rw [e]; rfl))⟩, rfl, g3, fun e => (g1 e).1⟩
end Go.Proofs.YtmlfcpglhipjgaaGreat
namespace Go.Proofs.YtmlfcpglhipjgaaGreat
open Go.RowKit Sc As
theorem zeroCells_size (z : Array Value) (n : Nat) : (Builtin.zeroCells z n).size = n * z.size := by
 unfold Builtin.zeroCells; rw [Array.size_map, Array.size_range]
theorem run_append_make {P : Program} (w : World) (t ty ti e : TypeId) (i : TypeInfo) (z : Value) (ht : P.underlying t = some (.slice e)) (hti : P.underlying ti = some (.int .i64)) (hi : P.info? e = some i) (hz : i.zero = some z)
  (hs : 0 < i.size) (n : Nat) (h0 : 0 < n) (h63 : (n : Int) ≤ 1099511627776) (hb : i.bytes ≤ 64) :
  (Builtin.append_ #[t, ti] ty #[.slice none 0 0, I O (n : Int)]).run P w =
   .ok (.slice (some ⟨w.heap.size, 0, none⟩) n (grownCap w n 0 e)) (w.drew.alloc (.cells (Builtin.zeroCells z.cells n ++ Builtin.zeroCells z.cells (grownCap w n 0 e - n)) e)) := by
 have hn : n ≠ 0 := by omega
 have h63' : ¬ (9223372036854775807 < (n : Int)) := by omega
 have hm : n * i.bytes ≤ 1099511627776 * 64 := Nat.mul_le_mul (by omega) hb; have h48' : ¬ (281474976710656 < Builtin.nextslicecap n 0 * i.bytes) := by rw [nextslicecap_zero h0]; omega
 have h48i : ¬ (281474976710656 < (n : Int) * (i.bytes : Int)) := by
  have : ((n * i.bytes : Nat) : Int) = (n : Int) * (i.bytes : Int) := Int.natCast_mul _ _; omega
 have hw : IntKind.i64.wrap (n : Int) = (n : Int) := by rw [IntKind.wrap_i64]; omega
 have hneg : ¬ ((n : Int) < 0) := by omega
 have hns : ¬ (n * i.size = 0) := by rw [Nat.mul_eq_zero]; omega
 simp [Builtin.append_, run_underlying ht, run_underlying hti, sizeOf, typeInfo, zeroValue, hi, hz, Builtin.lenOf, hn, h63', h48', h48i, hw, hneg, hns, Question.forced, run_firstCells_none, newRow, grownCap, asInt, asIntOf]
theorem info_farm_ex : ∃ i z, Tryz.prog.info? 47 = some i ∧ i.zero = some z ∧ i.size = 3 ∧ i.bytes = 40 ∧ z.cells.size = 3 := by
 obtain ⟨i, h1, h2, h3, h4⟩ := info_parts info_farm; exact ⟨i, _, h1, h2, h3, h4, rfl⟩
section
attribute [-go_sem] Builtin.append_
theorem growF_any (n : Nat) (hn : n ≤ 1000000) (w : World) :
  Calls Tryz.prog 122 #[.slice none 0 0, I O (n : Int)] w fun e w' => ∃ v, e = .returned v ∧ OwnR SF w' 47 w.heap.size v [] ∧ Below w.heap.size w w' := by
 have hn0 : (0 : Int) ≤ (n : Int) := inn _
 rcases Nat.eq_zero_or_pos n with hz | hz
 ·subst hz
  rw [show ((0 : Nat) : Int) = 0 from rfl]
  go_enter Tryz.func122, Tryz.ntmps122
  go_wp2
  go_ret
  exact ⟨_, rfl, OwnR.nil _ _ _, brf _ _⟩
 ·obtain ⟨i, z, h1, h2, h3, h4, h5⟩ := info_farm_ex
  have hni : (n : Int) ≤ 1000000 := by omega
  have hpos : (0 : Int) < (n : Int) := by omega
  have hposn : decide (0 < n) = true := dqt hz; obtain ⟨ZS, hz2, RA⟩ : ∃ ZS : Nat → Array Value, (∀ c, n ≤ c → (ZS c).size = c * 3) ∧ ∀ (W : World) (ty : TypeId), (Builtin.append_ #[30, 3] ty #[.slice none 0 0, I O (n : Int)]).run Tryz.prog W = .ok (.slice (some ⟨W.heap.size, 0, none⟩) n (grownCap W n 0 47)) (W.drew.alloc (.cells (ZS (grownCap W n 0 47)) 47)) := by
   refine ⟨fun c => Builtin.zeroCells z.cells n ++ Builtin.zeroCells z.cells (c - n), fun c hc => ?_, fun W ty => run_append_make (P := Tryz.prog) W 30 ty 3 47 i z Tryz.underlying30 Tryz.underlying3 h1 h2 (by omega) n hz (by omega) (by omega)⟩
   show (Builtin.zeroCells z.cells n ++ Builtin.zeroCells z.cells (c - n)).size = c * 3
   rw [Array.size_append, zeroCells_size, zeroCells_size, h5]; omega
  have HZ := mh hz2; clear h1 h2 h3 h4 h5 hz2
  go_enter Tryz.func122, Tryz.ntmps122
  go_wp2
  go_ret
  have hc := grownCap_ge w n 0 47; have hm := grownCap_le_maxLen w n 0 47 (by unfold maxLen; omega); exact ⟨_, rfl, ⟨rfl, .inr ⟨w.heap.size, _, ZS (grownCap w n 0 47), rfl, Nat.le_refl _, World.alloc_heap_new w (.cells (ZS (grownCap w n 0 47)) 47), Nat.zero_le _, hm, HZ.out _ hc, by simp [Shape.flat]⟩⟩, ((brf w.heap.size w).alloc mle _).drew⟩
end
end Go.Proofs.YtmlfcpglhipjgaaGreat
namespace Go.Proofs.YtmlfcpglhipjgaaGreat
open Go.RowKit Sc As
theorem run_append_none_cap {P : Program} {w : World} (base : Nat) (t ty e : TypeId) (i : TypeInfo) (size : Nat) (ht : P.underlying t = some (.slice e)) (hi : P.info? e = some i)
  (v : Value) (n c : Nat) (xs : List Value) (hown : w.ownsRow base e size v n xs) : (Builtin.append_ #[t, t] ty #[v, .slice none 0 c]).run P w = .ok v w := by
 rcases hown.2 with ⟨rfl, rfl⟩ | ⟨g, cap, cur, rfl, _, _, hnc, _⟩
 ·simp [Builtin.append_, run_underlying ht, sizeOf, typeInfo, hi, Builtin.lenOf, Builtin.firstCells]
 ·simp [Builtin.append_, run_underlying ht, sizeOf, typeInfo, hi, Builtin.lenOf, Builtin.firstCells, hnc, storeCells]
theorem OwnR.appendAny {α : Type} {S : Shape α} {P : Program} {T TS : TypeId} {bytes : Nat} (he : Elem S P T TS bytes) {w : World} {ops : Array Oper} {rest : List Oper} {o : Oper} {a : Act} {Q : Exit → Act → World → Prop} (hgd : o.guard = none) (s x : Operand)
  (ho : o.op = .call { callee := .builtin .append, args := #[s, x], argTypes := #[TS, TS] }) (B : Nat) (v : Value) (L M : List α) (p : Option Addr) (c n : Nat) (hM : M.length = n) (hown : OwnR S w T B v L) (hsrc : Recs S w p M) (hs : a.eval s = v)
  (hx : a.eval x = .slice p n c) (hB : B ≤ w.heap.size) (hn : L.length + n < 1073741824) (hby : bytes ≤ 65536)
  (h : ∀ v' w', OwnR S w' T B v' (L ++ M) → Appends w w' B w.heap.size v v' → wpList P ops Q rest (a.put o.dst v') w') : wpList P ops Q (o :: rest) a w := by
 cases p with
 | none =>
   subst hM; obtain ⟨i0, z, e1, e2, e3, e4, e5⟩ := he.ex; have hM : M = [] := by
    rcases hsrc.2 with h | ⟨b, off, h, _⟩
    ·exact h
    ·cases h
   subst hM; have hr := h v w (by rw [List.append_nil]; exact hown) ⟨brf _ _, Nat.le_refl _, fun _ _ _ => rfl, .inl rfl⟩; refine wpList_plain hgd fun K hK => ?_
   have hrun := run_append_none_cap (P := P) (w := w) B TS o.type T i0 S.k he.ts e1 v L.length c (S.flat L) hown; unfold Oper.wp
   simp [execOp, ho, resolve, invoke, builtin, hs, hx, hrun, Result.andThen]
   exact hK _ _ hr
 | some ad => exact OwnR.appendAll he hgd s x ho B v L M (some ad) c n hM hown hsrc (fun h => by cases h) hs hx hB hn hby h
theorem concat_any (gb : Nat) (p p2 : Option Addr) (R R2 : List RF) (c c2 : Nat) (w : World) (h1 : Recs SF w p R) (h2 : Recs SF w p2 R2) (l1 : R.length ≤ 1000) (l2 : R2.length ≤ 1000)
  (x0 : w.cell? ⟨gb, 0, none⟩ = some (.slice p R.length c)) (x1 : w.cell? ⟨gb, 1, none⟩ = some (.slice p2 R2.length c2)) :
  Calls Tryz.prog 83 #[.slice (some ⟨gb, 0, none⟩) 2 2] w fun e w' => ∃ v, e = .returned v ∧ OwnR SF w' 47 w.heap.size v (R ++ R2) ∧ Below w.heap.size w w' := by
 have H1 := mh h1; have H2 := mh h2; have hgb : gb < w.heap.size := World.block_lt_of_cell? w ⟨gb, 0, none⟩ x0; obtain ⟨n1, en1⟩ : ∃ n, R.length = n := ⟨_, rfl⟩; obtain ⟨n2, en2⟩ : ∃ n, R2.length = n := ⟨_, rfl⟩; rw [en1] at x0 l1; rw [en2] at x1 l2; have HN1 := mh en1; have HN2 := mh en2; have GR := mh (growF_any (n1 + n2) (by omega) w); rw [Int.natCast_add] at GR; have hn1 : (0 : Int) ≤ (n1 : Int) := inn _; have hn2 : (0 : Int) ≤ (n2 : Int) := inn _; have h1i : (n1 : Int) ≤ 1000 := by omega
 have h2i : (n2 : Int) ≤ 1000 := by omega
 have X0 := mh x0; have X1 := mh x1; clear h1 h2 en1 en2
 go_enter Tryz.func83, Tryz.ntmps83
 go_wp2
 go_loopw [3, 11] (fun sv iv W => w = W ∧ ((iv = I O 0 ∧ sv = I O 0) ∨ (iv = I O 1 ∧ sv = I O n1) ∨ (iv = I O 2 ∧ sv = I O ((n1 : Int) + (n2 : Int))))) (fun _ iv _ => 2 - (intOf iv).toNat)
 case atStart => exact ⟨rfl, .inl ⟨rfl, rfl⟩⟩
 case round =>
  obtain ⟨ew, hh⟩ := hrel; subst ew
  rcases hh with ⟨rfl, rfl⟩ | ⟨rfl, rfl⟩ | ⟨rfl, rfl⟩
  ·have hd : decide ((n1 : Int) < 0) = false := dqf (by omega)
   go_wp2
   go_roundw
   case rel => exact ⟨by first | rfl | trivial, .inr (.inl ⟨by first | rfl | trivial | go_num, by first | rfl | trivial | go_num⟩)⟩
   case measure => simp [intOf]
  ·have hd : decide ((n1 : Int) + (n2 : Int) < 0) = false := dqf (by omega)
   go_wp2
   go_roundw
   case rel => exact ⟨by first | rfl | trivial, .inr (.inr ⟨by first | rfl | trivial | go_num, by first | rfl | trivial | go_num⟩)⟩
   case measure => simp [intOf]
  ·go_wp2_with fail
   (with_reducible refine cmo GR.out ?_); rintro e w5 ⟨v5, rfl, hO5, hb5⟩; have HO5 := mh hO5; have HB5 := mh hb5; clear hO5 hb5
   go_wp2_with fail
   go_loopw [6, 27] (fun sv iv W => Below w.heap.size w W ∧ ((iv = I O 0 ∧ OwnR SF W 47 w.heap.size sv []) ∨ (iv = I O 1 ∧ OwnR SF W 47 w.heap.size sv R) ∨ (iv = I O 2 ∧ OwnR SF W 47 w.heap.size sv (R ++ R2)))) (fun _ iv _ => 2 - (intOf iv).toNat)
   case atStart => exact ⟨HB5.out, .inl ⟨rfl, HO5.out⟩⟩
   case round =>
    obtain ⟨wo, rfl⟩ : ∃ wo : World, wo = wr := ⟨_, rfl⟩; obtain ⟨hb, hh⟩ := hrel; have HB := mh hb; have z0 := (hb.cell (p := ⟨gb, 0, none⟩) hgb).trans X0.out; have z1 := (hb.cell (p := ⟨gb, 1, none⟩) hgb).trans X1.out; have RA := mh (H1.out.below hb); have RB := mh (H2.out.below hb); clear hb
    rcases hh with ⟨rfl, hO⟩ | ⟨rfl, hO⟩ | ⟨rfl, hO⟩
    ·have HO := mh hO
     clear hO
     go_wp2_with (first | (at_builtin; (refine OwnR.appendAny el_farm rfl (.tmp 31) (.tmp 32) rfl w.heap.size _ [] R p c n1 HN1.out HO.out RA.out rfl rfl HB.out.size (by simp; omega) (by decide) ?_); intro v7 w7 hO7 hap7; have HO7 := mh hO7; have HB7 := mh (HB.out.trans hap7.below); clear hO7 hap7) | fail)
     go_roundw
     case rel => exact ⟨HB7.out, .inr (.inl ⟨by first | rfl | trivial | go_num, HO7.out⟩)⟩
     case measure => simp [intOf]
    ·have HO := mh hO
     clear hO
     go_wp2_with (first | (at_builtin; (refine OwnR.appendAny el_farm rfl (.tmp 31) (.tmp 32) rfl w.heap.size _ R R2 p2 c2 n2 HN2.out HO.out RB.out rfl rfl HB.out.size (by have := HN1.out; omega) (by decide) ?_); intro v7 w7 hO7 hap7; have HO7 := mh hO7; have HB7 := mh (HB.out.trans hap7.below); clear hO7 hap7) | fail)
     go_roundw
     case rel => exact ⟨HB7.out, .inr (.inr ⟨by first | rfl | trivial | go_num, HO7.out⟩)⟩
     case measure => simp [intOf]
    ·have HO := mh hO
     clear hO
     go_wp2_with fail
     go_ret
     exact ⟨_, rfl, HO.out, HB.out⟩
theorem SepR.base {ρ β : Type} {S : Shape ρ} {V : (Nat → Prop) → World → ρ → β → Prop} {T : TypeId} {B B' : Nat} {Q : Nat → Prop} {W : World} {v : Value} {R : List ρ} {K : List β} (h : SepR S V T B Q W v R K) (hB : B' ≤ B) : SepR S V T B' Q W v R K :=
 ⟨h.hl, h.own.mono hB, h.oq, h.rows⟩
def CyG (F : List FarmF) (w : World) (e : Ending) (w' : World) : Prop :=
 ∃ v R, e = .returned v ∧ SepR SF (FVs LVw) 47 w.heap.size (NewQ w.heap.size) w' v R F ∧ Below w.heap.size w w'
structure CpI (wo W : World) (gg : Nat) (fa day : Int) (v : Value) (L : List RL) (K : List LineF) : Prop where
 fb : Blk W gg #[I O fa, I O day, v] 47
 rw : SepR SL LVw 68 (gg + 1) (NewQ (gg + 1)) W v L K
 bo : Below wo.heap.size wo W
 le : wo.heap.size ≤ gg
theorem CpI.push {wo W w6 w7 : World} {gg H : Nat} {fa day : Int} {v v7 : Value} {L : List RL} {K : List LineF} {r : RL} {x : LineF} (h : CpI wo W gg fa day v L K) (hb : Below W.heap.size W w6) (hv : LVw (NewQ W.heap.size) w6 r x)
  (hO : OwnR SL w7 68 (gg + 1) v7 (L ++ [r])) (hap : Appends w6 w7 (gg + 1) H v v7) (hH : w6.heap.size ≤ H) : CpI wo (w7.setCell ⟨gg, 2, none⟩ v7) gg fa day v7 (L ++ [r]) (K ++ [x]) := by
 have hgl := h.fb.lt; have p := h.rw.push LVw.chgs (Q' := NewQ (gg + 1)) hb.size (fun b q hl => ⟨hb.block b hl, q⟩) hH (fun b q => by unfold NewQ; omega) hv hO hap; have b67 : Below wo.heap.size w6 w7 := hap.below.mono (by have := h.le; omega); refine ⟨?_, p.change LVw.chgs (by rw [setCell_sz]; exact Nat.le_refl _) fun b q _ => ⟨setCell_far _ (by unfold NewQ at q; omega) _ _, q⟩, ((h.bo.trans (hb.mono h.bo.size)).trans b67).setCell h.le _, h.le⟩; exact (show Blk w7 gg #[I O fa, I O day, v] 47 from (hap.below.block gg (Nat.lt_succ_self gg)).trans (h.fb.below hb)).set 2 v7
theorem LV.lvw {W : World} {B : Nat} {dl ls se ki ar bo : Int} {p : Option Addr} {n c : Nat} {x : LineF} {r : RL} {Q : Nat → Prop} {W0 : World} (hv : LV Q W0 ⟨dl, ls, r.dp, r.dn, r.dc, se, ki, ar, bo⟩ x) (hO : OwnR SI W 3 B (.slice p n c) x.due) : LVw (NewQ B) W ⟨dl, ls, p, n, c, se, ki, ar, bo⟩ x := by
 obtain ⟨p', c', e, h1, h2, h3, -, h5⟩ := hO.cut (n := x.due.length) rfl
 cases e
 exact ⟨⟨hv.decl, hv.sch, h5.ints, rfl, h3, fun e => (h1 e).1, fun a e => .inr (h2 a e).2.2.1, hv.season, hv.kind, hv.area, hv.border⟩, hO.mono (Nat.zero_le _), fun g e => (hO.lt e).1⟩
theorem copy2_any {Q : Nat → Prop} (p : Option Addr) (F : List FarmF) (c : Nat) (w : World) (h : FsAt Q w p F) (lF : F.length ≤ 1000) (lL : ∀ f ∈ F, f.lines.length ≤ 1000 ∧ ∀ x ∈ f.lines, x.due.length ≤ 1000) :
  Calls Tryz.prog 36 #[.slice p F.length c] w (CyG F w) := by
 have H := mh h; have LL := mh lL; have B0 := mh (brf w.heap.size w); have hlen := h.len; clear h lL; unfold CyG
 go_enter Tryz.func36, Tryz.ntmps36
 go_wp2_with fail
 go_loopw [3, 11] (fun v i W => ∃ (k : Nat) (R : List RF), k ≤ F.length ∧ i = I O k ∧ SepR SF (FVs LVw) 47 w.heap.size (NewQ w.heap.size) W v R (F.take k) ∧ Below w.heap.size w W) (fun _ i _ => F.length - (intOf i).toNat)
 case atStart => exact ⟨0, [], Nat.zero_le _, rfl, SepR.nil _ _ _ _ _ _, B0.out⟩
 case round =>
  obtain ⟨wo, rfl⟩ : ∃ wo : World, wo = wr := ⟨_, rfl⟩; obtain ⟨k, R, hk, rfl, hR, hb⟩ := hrel; have HR := mh hR; have HB := mh hb; have hk0 : (0 : Int) ≤ (k : Int) := inn _
  by_cases hlt : k < F.length
  ·have hk1 : (k : Int) < (F.length : Int) := by omega
   have ST := mh (tsg hlt); have LK := mh (LL.out F[k] (List.getElem_mem hlt)); obtain ⟨b, off, ⟨xf, xd, lp, ln, lc⟩, rfl, hbl, ⟨c0, c1, c2⟩, hv⟩ := (H.out.below hb).at hlt; have e1 := hv.farm; have e2 := hv.day; have e3 := hv.ln; simp only at c0 c1 c2 e1 e2 e3; subst e1 e2 e3; have FL := mh hv.lines; have FE := mh (Eq.refl F[k]); obtain ⟨f, ef⟩ : ∃ f, F[k] = f := ⟨_, rfl⟩; rw [ef] at c0 c1 c2 ST LK FL; have hll := LK.out.1; obtain ⟨fa, day, K⟩ := f; simp only at c0 c1 c2 LK FL hll; have hal := (brf wo.heap.size wo).alloc mle (.cells #[I O fa, I O day, .slice lp K.length lc] 47); have hs1 : (wo.alloc (.cells #[I O fa, I O day, .slice lp K.length lc] 47)).heap.size = wo.heap.size + 1 := by rw [World.size_alloc]
   have hal2 := (brf (wo.alloc (.cells #[I O fa, I O day, .slice lp K.length lc] 47)).heap.size (wo.alloc (.cells #[I O fa, I O day, .slice lp K.length lc] 47))).alloc mle (.cells #[I O fa, I O day, .slice none 0 0] 47); obtain ⟨gf, egf⟩ : ∃ g, wo.heap.size = g := ⟨_, rfl⟩; have EGF := mh egf
   have I0 := mh (show CpI wo ((wo.alloc (.cells #[I O fa, I O day, .slice lp K.length lc] 47)).alloc (.cells #[I O fa, I O day, .slice none 0 0] 47)) (gf + 1) fa day (.slice none 0 0) [] [] from
    ⟨by rw [← egf, ← hs1]; exact Blk.new _ _ _, SepR.nil _ _ _ _ _ _, hal.trans (hal2.mono hal.size), by omega⟩)
   clear hv hb hR hal hal2 hs1 ef
   go_wp2_with fail
   clear egf c0 c1 c2; generalize (wo.alloc (.cells #[I O fa, I O day, .slice lp K.length lc] 47)).alloc (.cells #[I O fa, I O day, .slice none 0 0] 47) = w1 at *
   go_loopw [23] (fun iv W => ∃ (m : Nat) (v : Value) (L : List RL), m ≤ K.length ∧ iv = I O m ∧ CpI wo W (gf + 1) fa day v L (K.take m)) (fun iv _ => K.length - (intOf iv).toNat)
   case atStart => exact ⟨0, _, [], Nat.zero_le _, rfl, I0.out⟩
   case round =>
    clear I0; obtain ⟨wi, rfl⟩ : ∃ wi : World, wi = wr := ⟨_, rfl⟩; obtain ⟨m, v, L, hm, rfl, hI⟩ := hrel; have HI := mh hI; have hm0 : (0 : Int) ≤ (m : Int) := inn _; obtain ⟨p2, cc2, rfl, -, -, -, -, -⟩ := hI.rw.own.cut (n := m) (by rw [hI.rw.hl, List.length_take]; omega); have g0 := hI.fb.cell 0; have g1 := hI.fb.cell 1; have g2 := hI.fb.cell 2
    by_cases hlt2 : m < K.length
    ·have hm1 : (m : Int) < (K.length : Int) := by omega
     have ST2 := mh (tsg hlt2); have LD := mh (LK.out.2 K[m] (List.getElem_mem hlt2)); obtain ⟨bl, ol, ⟨dl, ls, dp, dn, dc, se, ki, ar, bo⟩, rfl, hbl2, ⟨d0, d1, d2, d3, d4, d5, d6⟩, hv2⟩ := (FL.out.below hI.bo).at hlt2; have e4 := hv2.dn; simp only at d0 d1 d2 d3 d4 d5 d6 e4; subst e4; have HV := mh hv2; have hba := (brf wi.heap.size wi).alloc mle (.cells #[I O dl, I O ls, .slice dp K[m].due.length dc, I O se, I O ki, I O ar, I O bo] 68); have HBA := mh hba; obtain ⟨gx, egx⟩ : ∃ g, wi.heap.size = g := ⟨_, rfl⟩; have EGX := mh egx; have XB := mh (egx ▸ Blk.new wi #[I O dl, I O ls, .slice dp K[m].due.length dc, I O se, I O ki, I O ar, I O bo] 68); have DR := mh ((hv2.due.recs).below hba); have GBA := mh (hI.fb.below hba); obtain ⟨y, ey⟩ : ∃ y, K[m] = y := ⟨_, rfl⟩; rw [ey] at d2 HBA XB HV DR ST2 LD GBA; have hyl := LD.out; have hlm := HI.out.rw.hl; rw [List.length_take] at hlm; have HLM := mh hlm; clear hv2 hba ey hI hlm
     go_upto_region 10 with (first | (at_builtin; (refine OwnR.appendAny el_int rfl (.const (.slice none 0 0)) (.tmp 28) rfl (gx + 1) _ [] y.due dp dc y.due.length rfl (OwnR.nil _ _ _) DR.out rfl rfl (by rw [World.size_alloc]; have := EGX.out; omega) (by simp; omega) (by decide) ?_); intro v5 w5 hO5 hap5; rw [List.nil_append] at hO5; obtain ⟨p5, c5, rfl, -, -, -, -, -⟩ := hO5.cut (n := y.due.length) rfl; have O5 := mh hO5; have X5 := mh (show Blk w5 gx #[I O dl, I O ls, .slice dp y.due.length dc, I O se, I O ki, I O ar, I O bo] 68 from (hap5.below.block gx (Nat.lt_succ_self gx)).trans XB.out); have B5 := mh (show Below gx wi w5 from (HBA.out.mono (by have := EGX.out; omega)).trans (hap5.below.mono (Nat.le_succ gx))); have G5 := mh (show Blk w5 (gf + 1) #[I O fa, I O day, .slice p2 m cc2] 47 from (hap5.below.block (gf + 1) (by have := HI.out.fb.lt; have := EGX.out; omega)).trans GBA.out); have f2 := X5.out.fr 2; have q2 := X5.out.cell 2; clear hO5 hap5) | fail)
     clear f2 q2 g0 g1 g2 d0 d1 d2 d3 d4 d5 d6 egx; have X6 := mh (show Blk (w5.setCell ⟨gx, 2, none⟩ (.slice p5 y.due.length c5)) gx #[I O dl, I O ls, .slice p5 y.due.length c5, I O se, I O ki, I O ar, I O bo] 68 from X5.out.set 2 _); have G6 := mh (show Blk (w5.setCell ⟨gx, 2, none⟩ (.slice p5 y.due.length c5)) (gf + 1) #[I O fa, I O day, .slice p2 m cc2] 47 from G5.out.far (by have := HI.out.fb.lt; have := EGX.out; omega) _); have O6 := mh (show OwnR SI (w5.setCell ⟨gx, 2, none⟩ (.slice p5 y.due.length c5)) 3 (gx + 1) (.slice p5 y.due.length c5) y.due from O5.out.blocks fun g _ hB _ => setCell_far _ (by omega) _ _); have B6 := mh (show Below wi.heap.size wi (w5.setCell ⟨gx, 2, none⟩ (.slice p5 y.due.length c5)) from by rw [EGX.out]; exact B5.out.setCell mle _); have V6 := mh (show LVw (NewQ wi.heap.size) (w5.setCell ⟨gx, 2, none⟩ (.slice p5 y.due.length c5)) ⟨dl, ls, p5, y.due.length, c5, se, ki, ar, bo⟩ y from LV.lvw (r := ⟨dl, ls, dp, y.due.length, dc, se, ki, ar, bo⟩) HV.out (O6.out.mono (by have := EGX.out; omega))); generalize w5.setCell ⟨gx, 2, none⟩ (.slice p5 y.due.length c5) = w6 at *; have x0 := X6.out.cell 0; have x1 := X6.out.cell 1; have x2 := X6.out.cell 2; have x3 := X6.out.cell 3; have x4 := X6.out.cell 4; have x5 := X6.out.cell 5; have x6 := X6.out.cell 6; have g2 := G6.out.cell 2; have OW := mh (HI.out.rw.own.below B6.out)
     go_wp2_with (first | (at_builtin; (refine OwnR.append el_line rfl (.tmp 32) (.tmp 34) rfl (gf + 1 + 1) _ L ⟨dl, ls, p5, y.due.length, c5, se, ki, ar, bo⟩ #[I O dl, I O ls, .slice p5 y.due.length c5, I O se, I O ki, I O ar, I O bo] rfl OW.out rfl (by simp [Act.eval]) (show gf + 1 < w6.heap.size from G6.out.lt) (by have := HLM.out; omega) (by decide) ?_); intro v7 w7 hO7 hap7; obtain ⟨p7, c7, rfl, -, -, -, -, -⟩ := hO7.cut (n := m + 1) (by rw [lap, HLM.out]; simp; omega); have HP := mh (HI.out.push B6.out V6.out hO7 hap7 (Nat.le_succ _)); have G7 := mh (show Blk w7 (gf + 1) #[I O fa, I O day, .slice p2 m cc2] 47 from (hap7.below.block (gf + 1) (Nat.lt_succ_self _)).trans G6.out); have f2 := G7.out.fr 2; have q2 := G7.out.cell 2; clear hO7 hap7) | fail)
     go_roundw
     case rel => exact ⟨m + 1, _, _, by omega, by go_num, by rw [ST2.out]; exact HP.out⟩
     case measure => simp [intOf]; omega
    ·obtain rfl : m = K.length := by omega
     have hI' := hI; rw [List.take_length] at hI'; have OWF := mh (HR.out.own.below hI.bo); have BI := mh (HB.out.trans (hI.bo.mono HB.out.size)); have FI := mh (show FVs LVw (NewQ wo.heap.size) wi ⟨fa, day, p2, K.length, cc2⟩ ⟨fa, day, K⟩ from ⟨rfl, rfl, L, (hI'.rw.base (Nat.zero_le _)).change LVw.chgs mle fun b q _ => ⟨rfl, by have := EGF.out; unfold NewQ at q ⊢; omega⟩⟩); have HRL := mh (show R.length ≤ 1000 by rw [HR.out.hl, List.length_take]; omega); clear hI hI'
     go_wp2_with (first | (at_builtin; (refine OwnR.append el_farm rfl (.tmp 38) (.tmp 40) rfl w.heap.size _ R ⟨fa, day, p2, K.length, cc2⟩ #[I O fa, I O day, .slice p2 K.length cc2] rfl OWF.out rfl (by simp [Act.eval]) BI.out.size (by have := HRL.out; omega) (by decide) ?_); intro v8 w8 hO8 hap8; have PU := mh (HR.out.push (FVs.chgs LVw.chgs) (Q' := NewQ w.heap.size) HI.out.bo.size (fun b q hl => ⟨HI.out.bo.block b hl, q⟩) (Nat.le_succ _) (fun b q => Nat.le_trans HB.out.size q) FI.out hO8 hap8); have B8 := mh (BI.out.trans hap8.below); clear hO8 hap8) | fail)
     go_roundw
     case rel => exact ⟨k + 1, _, by omega, by go_num, by rw [ST.out]; exact PU.out, B8.out⟩
     case measure => simp [intOf]; omega
  ·obtain rfl : k = F.length := by omega
   rw [List.take_length] at hR; have HR2 := mh hR; clear hR hb
   go_wp2_with fail
   go_ret
   exact ⟨_, R, rfl, HR2.out, HB.out⟩
end Go.Proofs.YtmlfcpglhipjgaaGreat
