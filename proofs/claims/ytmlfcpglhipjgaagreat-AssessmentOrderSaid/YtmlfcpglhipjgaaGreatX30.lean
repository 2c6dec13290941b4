/-
  PACKED (pack8.py): what is needed of the texts Lo, Xt, Am, Xm, Xu, Xv, Od.
-/
import Derived.Test.YtmlfcpglhipjgaaGreatX0
import Derived.Test.YtmlfcpglhipjgaaGreatX1
import Derived.Test.YtmlfcpglhipjgaaGreatX2
import Derived.Test.YtmlfcpglhipjgaaGreatX4
import Derived.Test.YtmlfcpglhipjgaaGreatX7
import Derived.Test.YtmlfcpglhipjgaaGreatX9
import Derived.Test.YtmlfcpglhipjgaaGreatX13
import Derived.Test.YtmlfcpglhipjgaaGreatX15
import Derived.Test.YtmlfcpglhipjgaaGreatX17
import Derived.Test.YtmlfcpglhipjgaaGreatX24
import Derived.Test.YtmlfcpglhipjgaaGreatX26
set_option maxRecDepth 100000
set_option maxHeartbeats 8000000
namespace Go.Proofs.YtmlfcpglhipjgaaGreat.Sc
end Go.Proofs.YtmlfcpglhipjgaaGreat.Sc
namespace Go.Proofs.YtmlfcpglhipjgaaGreat.As
end Go.Proofs.YtmlfcpglhipjgaaGreat.As
namespace Go.Proofs.YtmlfcpglhipjgaaGreat
open Go.RowKit Sc As
structure Opn (w W : World) (t : Nat) (l : List Int) (q g d : Nat) (r : RY) (Y : YLaw) : Prop where
 tape : TapeAt W t l q
 low : Below w.heap.size w W
 wt : w.heap.size ≤ t
 yv : YV (fun b => t < b) W d r Y
 vb : Blk W g (yCells r).toArray 29
 tg : t < g
 ok : YOk Y
 len : Y.sch.length ≤ 3
 due : Y.late.due < 40
 sm : ∀ s ∈ Y.sch, SmallS s
section
variable {w w1 w2 W W' : World} {t q q' g d : Nat} {l : List Int} {r : RY} {Y : YLaw}
theorem Opn.next (h : Opn w W t l q g d r Y) (ht : TapeAt W' t l q') (hb : But t W W') : Opn w W' t l q' g d r Y := by
 have hw := h.wt; have hs := h.low.size; have htg := h.tg; exact ⟨ht, h.low.trans (hb.below hw (by omega)), hw, h.yv.change hb.size fun b k hl => ⟨hb.block b hl (by omega), k⟩, h.vb.but hb (by omega), h.tg, h.ok, h.len, h.due, h.sm⟩
theorem Opn.below (h : Opn w W t l q g d r Y) (hb : Below W.heap.size W W') : Opn w W' t l q g d r Y := h.next (h.tape.below hb) (.of_below hb)
theorem Opn.init {T : TypeId} {l : List Int} (hb : Below w.heap.size w w1) (ht : w.heap.size < w1.heap.size) (hy : YV (NewQ w1.heap.size) w2 d r Y) (ho : YOk Y) (hl : Y.sch.length ≤ 3) (hd : Y.late.due < 40) (hs : ∀ s ∈ Y.sch, SmallS s) (hp : TpB w1 w2 w.heap.size l q) (hT : T = 29) :
  Opn w (w2.alloc (.cells (yCells r).toArray T)) w.heap.size l q w2.heap.size d r Y := by
 subst hT; have hA := (brf w2.heap.size w2).alloc mle (.cells (yCells r).toArray 29); have h2 := hp.but.size; refine ⟨hp.tape.below hA, (hb.trans (hp.but.below mle hb.size)).trans (hA.mono (by omega)), Nat.le_refl _, hy.change hA.size fun b k hl => ⟨hA.block b hl, by unfold NewQ at k; omega⟩, Blk.new _ _ _, by omega, ho, hl, hd, hs⟩
end
structure Fms (W : World) (t : Nat) (Y : YLaw) (p : Option Addr) (F : List FarmF) (most : Nat) : Prop where
 at_ : FsAt (fun b => t < b) W p F
 ok : FOk Y F
 fm : ∀ f ∈ F, FmOk Y f
 len : F.length ≤ most
theorem Opn.farms {w W : World} {t q g d : Nat} {l : List Int} {r : RY} {Y : YLaw} (h : Opn w W t l q g d r Y) (most : Nat) (hm : most ≤ 4) :
  Calls Tryz.prog 18 #[.pointer (some ⟨t, 0, none⟩), .agg (yCells r).toArray, .int .i64 (most : Int)] W fun e w' => ∃ (p : Option Addr) (F : List FarmF) (cap : Nat) (q' : Nat), e = .returned (.slice p F.length cap) ∧ F.length ≤ cap ∧ Opn w w' t l q' g d r Y ∧ Fms w' t Y p F most ∧ But t W w' :=
 (farms2_any d t l q most r Y W h.tape (fun b k => by omega) h.yv h.ok hm).mono fun e w' ⟨p, F, cap, fa, q', e1, h1, h2, h3, h4, h5⟩ =>
  ⟨p, F, cap, q', e1, h1, h.next h5.tape h5.but, ⟨h2.change mle fun b k _ => ⟨rfl, by have := h.tape.lt; unfold NewQ at k; omega⟩, h3.fok h.ok (by omega), h3.fm, h4⟩, h5.but⟩
end Go.Proofs.YtmlfcpglhipjgaaGreat
namespace Go.Proofs.YtmlfcpglhipjgaaGreat
open Go.RowKit Sc As
structure SepR {ρ β : Type} (S : Shape ρ) (V : (Nat → Prop) → World → ρ → β → Prop) (T : TypeId) (B : Nat) (Q : Nat → Prop) (W : World) (v : Value) (R : List ρ) (K : List β) : Prop where
 hl : R.length = K.length
 own : OwnR S W T B v R
 oq : ∀ g, v.ownBlock = some g → Q g
 rows : ∃ φ : Nat → Nat → Prop, (∀ k (h : k < R.length) (h' : k < K.length), V (φ k) W R[k] K[k]) ∧ (∀ k b, φ k b → Q b ∧ v.ownBlock ≠ some b) ∧ ∀ j k b, j ≠ k → φ j b → ¬ φ k b
section
variable {ρ β : Type} {S : Shape ρ} {V V2 : (Nat → Prop) → World → ρ → β → Prop} {T : TypeId} {B t G : Nat} {Q Q' : Nat → Prop} {W w' w5 w6 : World} {v v6 : Value} {R : List ρ} {K : List β} {r : ρ} {x : β}
theorem SepR.nil (S : Shape ρ) (V : (Nat → Prop) → World → ρ → β → Prop) (T : TypeId) (B : Nat) (Q : Nat → Prop) (W : World) : SepR S V T B Q W (.slice none 0 0) [] [] :=
 ⟨rfl, OwnR.nil _ _ _, (fun g e => by cases e), fun _ _ => False, (fun k h => by simp at h), (fun _ _ h => h.elim), fun _ _ _ _ h => h.elim⟩
theorem SepR.change (hV : Chgs V) (h : SepR S V T B Q W v R K) (hs : W.heap.size ≤ w'.heap.size) (hb : ∀ b, Q b → b < W.heap.size → w'.heap[b]? = W.heap[b]? ∧ Q' b) : SepR S V T B Q' w' v R K := by
 obtain ⟨h1, h2, h3, φ, h4, h5, h6⟩ := h; refine ⟨h1, h2.blocks fun g hg _ hl => (hb g (h3 g hg) hl).1, fun g hg => (hb g (h3 g hg) (h2.lt hg).2).2, fun k b => φ k b ∧ b < W.heap.size, fun k a c => ?_, fun k b q => ⟨(hb b (h5 k b q.1).1 q.2).2, (h5 k b q.1).2⟩, fun j k b e p q => h6 j k b e p.1 q.1⟩; exact hV _ _ _ _ _ _ (h4 k a c) hs fun b q hl => ⟨(hb b (h5 k b q).1 hl).1, q, hl⟩
theorem SepR.map (hV : ∀ Q W r x, V Q W r x → V2 Q W r x) (h : SepR S V T B Q W v R K) : SepR S V2 T B Q W v R K := by
 obtain ⟨h1, h2, h3, φ, h4, h5, h6⟩ := h; exact ⟨h1, h2, h3, φ, fun k a c => hV _ _ _ _ (h4 k a c), h5, h6⟩
theorem SepR.upd (hV : Chgs V) (h : SepR S V T B Q W v R K) {k : Nat} (hk : k < R.length) (hk' : k < K.length) : ∃ φ : Nat → Prop, V φ W R[k] K[k] ∧ (∀ b, φ b → Q b ∧ v.ownBlock ≠ some b) ∧
  ∀ (w' : World) (a : ρ) (x : β) (φ' Q' : Nat → Prop), W.heap.size ≤ w'.heap.size → OwnR S w' T B v (R.set k a) → V φ' w' a x → (∀ b, φ' b → (φ b ∨ W.heap.size ≤ b) ∧ Q' b) →
    (∀ b, Q b → b < W.heap.size → (¬ φ b → v.ownBlock ≠ some b → w'.heap[b]? = W.heap[b]?) ∧ Q' b) → SepR S V T B Q' w' v (R.set k a) (K.set k x) := by
 obtain ⟨h1, h2, h3, φ, h4, h5, h6⟩ := h; refine ⟨φ k, h4 k hk hk', h5 k, fun w' a x φ' Q' hs hO hv hp hb => ⟨by simp [h1], hO, fun g hg => (hb g (h3 g hg) (h2.lt hg).2).2, fun j b => (j = k ∧ φ' b) ∨ (j ≠ k ∧ φ j b ∧ b < W.heap.size), fun j hj hj' => ?_, fun j b q => ?_, fun i j b e p q => ?_⟩⟩
 ·by_cases e : j = k
  ·subst e
   rw [List.getElem_set_self, List.getElem_set_self]; exact (hV _ _ _ _ _ _ hv mle fun b q _ => ⟨rfl, .inl ⟨rfl, q⟩⟩)
  ·rw [List.getElem_set_ne (Ne.symm e), List.getElem_set_ne (Ne.symm e)]
   rw [List.length_set] at hj hj'; refine hV _ _ _ _ _ _ (h4 j hj hj') hs fun b q hl => ⟨(hb b (h5 j b q).1 hl).1 (h6 j k b e q) (h5 j b q).2, .inr ⟨e, q, hl⟩⟩
 ·rcases q with ⟨rfl, q⟩ | ⟨_, q, hl⟩
  ·refine ⟨(hp b q).2, fun e => ?_⟩
   rcases (hp b q).1 with q | q
   ·exact (h5 j b q).2 e
   ·have := (h2.lt e).2; omega
  ·exact ⟨(hb b (h5 j b q).1 hl).2, (h5 j b q).2⟩
 ·rcases p with ⟨rfl, p⟩ | ⟨ni, p, pl⟩
  ·rcases q with ⟨rfl, q⟩ | ⟨nj, q, ql⟩
   ·exact e rfl
   ·rcases (hp b p).1 with p | p
    ·exact h6 i j b e p q
    ·omega
  ·rcases q with ⟨rfl, q⟩ | ⟨nj, q, ql⟩
   ·rcases (hp b q).1 with q | q
    ·exact h6 i j b e p q
    ·omega
   ·exact h6 i j b e p q
theorem SepR.push (hV : Chgs V) (h : SepR S V T B Q W v R K) (hs : W.heap.size ≤ w5.heap.size) (hb : ∀ b, Q b → b < W.heap.size → w5.heap[b]? = W.heap[b]? ∧ Q' b) (hG : w5.heap.size ≤ G) (hQ : ∀ b, W.heap.size ≤ b → Q' b)
  (hv : V (NewQ W.heap.size) w5 r x) (hO : OwnR S w6 T B v6 (R ++ [r])) (hap : Appends w5 w6 B G v v6) : SepR S V T B Q' w6 v6 (R ++ [r]) (K ++ [x]) := by
 obtain ⟨h1, h2, h3, φ, h4, h5, h6⟩ := h; have hvl : ∀ g, v.ownBlock = some g → g < W.heap.size := fun g e => (h2.lt e).2
 have hap' : ∀ b, b < w5.heap.size → v.ownBlock ≠ some b → v6.ownBlock ≠ some b := fun b hl hn => hap.apart hG hl hn
 refine ⟨by rw [lap, lap, h1]; rfl, hO, fun g hg => ?_, fun j b => (j < R.length ∧ φ j b ∧ b < W.heap.size) ∨ (j = R.length ∧ W.heap.size ≤ b ∧ b < w5.heap.size), fun j a c => ?_, fun j b q => ?_, fun i j b e p q => ?_⟩
 ·rcases hap.block with e | e
  ·rw [e] at hg; exact (hb g (h3 g hg) (hvl g hg)).2
  ·rw [e] at hg; cases hg; exact hQ _ (by omega)
 ·by_cases hlt : j < R.length
  ·rw [List.getElem_append_left hlt, List.getElem_append_left (by rw [← h1]; exact hlt)]
   refine hV _ _ _ _ _ _ (h4 j hlt (by rw [← h1]; exact hlt)) (Nat.le_trans hs hap.size) fun b q hl => ⟨(hap.far b (nll hl hs) (h5 j b q).2).trans (hb b (h5 j b q).1 hl).1, .inl ⟨hlt, q, hl⟩⟩
  ·have ej : j = R.length := by rw [lap] at a; simp at a; omega
   subst ej; rw [List.getElem_append_right mle, List.getElem_append_right (by rw [h1]; exact Nat.le_refl _)]; simp only [Nat.sub_self, h1, List.getElem_cons_zero]; refine hV _ _ _ _ _ _ hv hap.size fun b q hl => ⟨hap.far b hl fun e => by have := hvl b e; unfold NewQ at q; omega, .inr ⟨by simp, q, hl⟩⟩
 ·rcases q with ⟨_, q, hl⟩ | ⟨_, q, hl⟩
  ·exact ⟨(hb b (h5 j b q).1 hl).2, hap' b (nll hl hs) (h5 j b q).2⟩
  ·exact ⟨hQ b q, hap' b hl fun e => by have := hvl b e; omega⟩
 ·rcases p with ⟨pi, p, pl⟩ | ⟨ei, p, pl⟩
  ·rcases q with ⟨qj, q, ql⟩ | ⟨ej, q, ql⟩
   ·exact h6 i j b e p q
   ·omega
  ·rcases q with ⟨qj, q, ql⟩ | ⟨ej, q, ql⟩
   ·omega
   ·omega
end
def LVw (Q : Nat → Prop) (w : World) (r : RL) (x : LineF) : Prop := LV Q w r x ∧ OwnR SI w 3 0 (.slice r.dp r.dn r.dc) x.due ∧ ∀ g, (Value.slice r.dp r.dn r.dc).ownBlock = some g → Q g
theorem LVw.chgs : Chgs LVw := fun _ _ _ _ _ _ h hs hb => ⟨h.1.change hs hb, h.2.1.blocks fun g hg _ hl => (hb g (h.2.2 g hg) hl).1, fun g hg => (hb g (h.2.2 g hg) (h.2.1.lt hg).2).2⟩
structure FVs (V : (Nat → Prop) → World → RL → LineF → Prop) (Q : Nat → Prop) (w : World) (r : RF) (f : FarmF) : Prop where
 farm : r.farm = f.farm
 day : r.day = f.day
 lines : ∃ L : List RL, SepR SL V 68 0 Q w (.slice r.lp r.ln r.lc) L f.lines
theorem FVs.chgs {V : (Nat → Prop) → World → RL → LineF → Prop} (hV : Chgs V) : Chgs (FVs V) := fun _ _ _ _ _ _ h hs hb => ⟨h.farm, h.day, h.lines.imp fun _ h => h.change hV hs hb⟩
theorem FVs.map {V V2 : (Nat → Prop) → World → RL → LineF → Prop} (hV : ∀ Q W r x, V Q W r x → V2 Q W r x) {Q : Nat → Prop} {w : World} {r : RF} {f : FarmF} (h : FVs V Q w r f) : FVs V2 Q w r f := ⟨h.farm, h.day, h.lines.imp fun _ h => h.map hV⟩
theorem SepR.lines {B : Nat} {Q : Nat → Prop} {W : World} {p : Option Addr} {n c : Nat} {R : List RL} {K : List LineF} (h : SepR SL LV 68 B Q W (.slice p n c) R K) : LsAt Q W p K ∧ n = K.length ∧ n ≤ c ∧ (p = none → c = 0) := by
 obtain ⟨h1, h2, h3, φ, h4, h5, h6⟩ := h; obtain ⟨p', c', e, g1, g2, g3, -, g5⟩ := h2.cut (n := K.length) h1
 cases e
 exact ⟨⟨⟨R, h1, g5, fun k a b => (h4 k a b).change mle fun b q _ => ⟨rfl, (h5 k b q).1⟩⟩, fun a e => .inr (h3 a.block (by rw [e]; rfl))⟩, rfl, g3, fun e => (g1 e).1⟩
theorem FVs.fv {Q : Nat → Prop} {w : World} {r : RF} {f : FarmF} (h : FVs LV Q w r f) : FV Q w r f := by
 obtain ⟨L, hL⟩ := h.lines; obtain ⟨h1, h2, h3, h4⟩ := hL.lines; exact ⟨h.farm, h.day, h1, h2, h3, h4⟩
theorem SepR.farms {B : Nat} {Q : Nat → Prop} {W : World} {p : Option Addr} {n c : Nat} {R : List RF} {K : List FarmF} (h : SepR SF (FVs LV) 47 B Q W (.slice p n c) R K) : FsAt Q W p K ∧ n = K.length ∧ n ≤ c ∧ (p = none → c = 0) := by
 obtain ⟨h1, h2, h3, φ, h4, h5, h6⟩ := h; obtain ⟨p', c', e, g1, g2, g3, -, g5⟩ := h2.cut (n := K.length) h1
 cases e
 exact ⟨⟨⟨R, h1, g5, fun k a b => (h4 k a b).fv.change mle fun b q _ => ⟨rfl, (h5 k b q).1⟩⟩, fun a e => .inr (h3 a.block (by rw [e]; rfl))⟩, rfl, g3, fun e => (g1 e).1⟩
end Go.Proofs.YtmlfcpglhipjgaaGreat
namespace Go.Proofs.YtmlfcpglhipjgaaGreat
open Go.RowKit Sc As
theorem refawards34_any (p q : Option Addr) (A : List Awd) (c d : Nat) (w : World) (h : Recs SA w p A) (k : Recs SA w q A) : Calls Tryz.prog 28 #[.slice p A.length c, .slice q A.length d] w (BoolG true w) := by
 have H := mh h; have K := mh k; have hlen := h.len; clear h k
 go_enter Tryz.func28, Tryz.ntmps28
 go_wp2
 go_loopw [5] (fun i wr => ∃ k : Nat, k ≤ A.length ∧ i = .int .i64 k ∧ Below w.heap.size w wr) (fun i _ => A.length - (intOf i).toNat)
 case atStart => exact ⟨0, Nat.zero_le _, rfl, brf _ _⟩
 case round =>
  obtain ⟨wo, rfl⟩ : ∃ wo : World, wo = wr := ⟨_, rfl⟩; obtain ⟨k, hk, rfl, hb⟩ := hrel; have HB := mh hb; have hk0 : (0 : Int) ≤ (k : Int) := inn _
  by_cases hlt : k < A.length
  ·have hk1 : (k : Int) < (A.length : Int) := by omega
   obtain ⟨b, off, e, hbl, ⟨c0, c1, c2, c3, c4, c5, c6, c7, c8⟩⟩ := SA_at (H.out.below hb) hlt
   cases e
   obtain ⟨b', off', e, hbl', ⟨d0, d1, d2, d3, d4, d5, d6, d7, d8⟩⟩ := SA_at (K.out.below hb) hlt
   cases e
   obtain ⟨⟨a1, a2, a3, a4, a5, a6, a7, a8, a9⟩, ea⟩ : ∃ a, A[k] = a := ⟨_, rfl⟩; rw [ea] at c0 c1 c2 c3 c4 c5 c6 c7 c8 d0 d1 d2 d3 d4 d5 d6 d7 d8; simp only at c0 c1 c2 c3 c4 c5 c6 c7 c8 d0 d1 d2 d3 d4 d5 d6 d7 d8; clear ea hb
   go_wp2
   go_quiet (fail)
   go_wp2
   go_roundw
   case rel => exact ⟨k + 1, by omega, by go_num, bnext HB.out HB.out.size (drewN_below _ _)⟩
   case measure => simp [intOf]; omega
  ·obtain rfl : k = A.length := by omega
   clear hb
   go_wp2
   go_ret
   exact ⟨rfl, HB.out⟩
theorem run_append_none_cap {P : Program} {w : World} (base : Nat) (t ty e : TypeId) (i : TypeInfo) (size : Nat) (ht : P.underlying t = some (.slice e)) (hi : P.info? e = some i)
  (v : Value) (n c : Nat) (xs : List Value) (hown : w.ownsRow base e size v n xs) : (Builtin.append_ #[t, t] ty #[v, .slice none 0 c]).run P w = .ok v w := by
 rcases hown.2 with ⟨rfl, rfl⟩ | ⟨g, cap, cur, rfl, _, _, hnc, _⟩
 ·simp [Builtin.append_, run_underlying ht, sizeOf, typeInfo, hi, Builtin.lenOf, Builtin.firstCells]
 ·simp [Builtin.append_, run_underlying ht, sizeOf, typeInfo, hi, Builtin.lenOf, Builtin.firstCells, hnc, storeCells]
theorem OwnR.appendAny {α : Type} {S : Shape α} {P : Program} {T TS : TypeId} {bytes : Nat} (he : Elem S P T TS bytes) {w : World} {ops : Array Oper} {rest : List Oper} {o : Oper} {a : Act} {Q : Exit → Act → World → Prop} (hgd : o.guard = none) (s x : Operand)
  (ho : o.op = .call { callee := .builtin .append, args := #[s, x], argTypes := #[TS, TS] }) (B : Nat) (v : Value) (L M : List α) (p : Option Addr) (c n : Nat) (hM : M.length = n) (hown : OwnR S w T B v L) (hsrc : Recs S w p M) (hs : a.eval s = v)
  (hx : a.eval x = .slice p n c) (hB : B ≤ w.heap.size) (hn : L.length + n < 1073741824) (hby : bytes ≤ 65536)
  (h : ∀ v' w', OwnR S w' T B v' (L ++ M) → Appends w w' B w.heap.size v v' → wpList P ops Q rest (a.put o.dst v') w') : wpList P ops Q (o :: rest) a w := by
 cases p with
 | none =>
   subst hM; obtain ⟨i0, z, e1, e2, e3, e4, e5⟩ := he.ex; have hM : M = [] := by
    rcases hsrc.2 with h | ⟨b, off, h, _⟩
    ·exact h
    ·cases h
   subst hM; have hr := h v w (by rw [List.append_nil]; exact hown) ⟨brf _ _, Nat.le_refl _, fun _ _ _ => rfl, .inl rfl⟩; refine wpList_plain hgd fun K hK => ?_
   have hrun := run_append_none_cap (P := P) (w := w) B TS o.type T i0 S.k he.ts e1 v L.length c (S.flat L) hown; unfold Oper.wp
   simp [execOp, ho, resolve, invoke, builtin, hs, hx, hrun, Result.andThen]
   exact hK _ _ hr
 | some ad => exact OwnR.appendAll he hgd s x ho B v L M (some ad) c n hM hown hsrc (fun h => by cases h) hs hx hB hn hby h
theorem SepR.base {ρ β : Type} {S : Shape ρ} {V : (Nat → Prop) → World → ρ → β → Prop} {T : TypeId} {B B' : Nat} {Q : Nat → Prop} {W : World} {v : Value} {R : List ρ} {K : List β} (h : SepR S V T B Q W v R K) (hB : B' ≤ B) : SepR S V T B' Q W v R K :=
 ⟨h.hl, h.own.mono hB, h.oq, h.rows⟩
def CyG (F : List FarmF) (w : World) (e : Ending) (w' : World) : Prop :=
 ∃ v R, e = .returned v ∧ SepR SF (FVs LVw) 47 w.heap.size (NewQ w.heap.size) w' v R F ∧ Below w.heap.size w w'
structure CpI (wo W : World) (gg : Nat) (fa day : Int) (v : Value) (L : List RL) (K : List LineF) : Prop where
 fb : Blk W gg #[.int .i64 fa, .int .i64 day, v] 47
 rw : SepR SL LVw 68 (gg + 1) (NewQ (gg + 1)) W v L K
 bo : Below wo.heap.size wo W
 le : wo.heap.size ≤ gg
theorem CpI.push {wo W w6 w7 : World} {gg H : Nat} {fa day : Int} {v v7 : Value} {L : List RL} {K : List LineF} {r : RL} {x : LineF} (h : CpI wo W gg fa day v L K) (hb : Below W.heap.size W w6) (hv : LVw (NewQ W.heap.size) w6 r x)
  (hO : OwnR SL w7 68 (gg + 1) v7 (L ++ [r])) (hap : Appends w6 w7 (gg + 1) H v v7) (hH : w6.heap.size ≤ H) : CpI wo (w7.setCell ⟨gg, 2, none⟩ v7) gg fa day v7 (L ++ [r]) (K ++ [x]) := by
 have hgl := h.fb.lt; have p := h.rw.push LVw.chgs (Q' := NewQ (gg + 1)) hb.size (fun b q hl => ⟨hb.block b hl, q⟩) hH (fun b q => by unfold NewQ; omega) hv hO hap; have b67 : Below wo.heap.size w6 w7 := hap.below.mono (by have := h.le; omega); refine ⟨?_, p.change LVw.chgs (by rw [setCell_sz]; exact Nat.le_refl _) fun b q _ => ⟨setCell_far _ (by unfold NewQ at q; omega) _ _, q⟩, ((h.bo.trans (hb.mono h.bo.size)).trans b67).setCell h.le _, h.le⟩; exact (show Blk w7 gg #[.int .i64 fa, .int .i64 day, v] 47 from (hap.below.block gg (Nat.lt_succ_self gg)).trans (h.fb.below hb)).set 2 v7
theorem LV.lvw {W : World} {B : Nat} {dl ls se ki ar bo : Int} {p : Option Addr} {n c : Nat} {x : LineF} {r : RL} {Q : Nat → Prop} {W0 : World} (hv : LV Q W0 ⟨dl, ls, r.dp, r.dn, r.dc, se, ki, ar, bo⟩ x) (hO : OwnR SI W 3 B (.slice p n c) x.due) : LVw (NewQ B) W ⟨dl, ls, p, n, c, se, ki, ar, bo⟩ x := by
 obtain ⟨p', c', e, h1, h2, h3, -, h5⟩ := hO.cut (n := x.due.length) rfl
 cases e
 exact ⟨⟨hv.decl, hv.sch, h5.ints, rfl, h3, fun e => (h1 e).1, fun a e => .inr (h2 a e).2.2.1, hv.season, hv.kind, hv.area, hv.border⟩, hO.mono (Nat.zero_le _), fun g e => (hO.lt e).1⟩
theorem copy2_any {Q : Nat → Prop} (p : Option Addr) (F : List FarmF) (c : Nat) (w : World) (h : FsAt Q w p F) (lF : F.length ≤ 1000) (lL : ∀ f ∈ F, f.lines.length ≤ 1000 ∧ ∀ x ∈ f.lines, x.due.length ≤ 1000) :
  Calls Tryz.prog 36 #[.slice p F.length c] w (CyG F w) := by
 have H := mh h; have LL := mh lL; have B0 := mh (brf w.heap.size w); have hlen := h.len; clear h lL; unfold CyG
 go_enter Tryz.func36, Tryz.ntmps36
 go_wp2_with fail
 go_loopw [3, 11] (fun v i W => ∃ (k : Nat) (R : List RF), k ≤ F.length ∧ i = .int .i64 k ∧ SepR SF (FVs LVw) 47 w.heap.size (NewQ w.heap.size) W v R (F.take k) ∧ Below w.heap.size w W) (fun _ i _ => F.length - (intOf i).toNat)
 case atStart => exact ⟨0, [], Nat.zero_le _, rfl, SepR.nil _ _ _ _ _ _, B0.out⟩
 case round =>
  obtain ⟨wo, rfl⟩ : ∃ wo : World, wo = wr := ⟨_, rfl⟩; obtain ⟨k, R, hk, rfl, hR, hb⟩ := hrel; have HR := mh hR; have HB := mh hb; have hk0 : (0 : Int) ≤ (k : Int) := inn _
  by_cases hlt : k < F.length
  ·have hk1 : (k : Int) < (F.length : Int) := by omega
   have ST := mh (tsg hlt); have LK := mh (LL.out F[k] (List.getElem_mem hlt)); obtain ⟨b, off, ⟨xf, xd, lp, ln, lc⟩, rfl, hbl, ⟨c0, c1, c2⟩, hv⟩ := (H.out.below hb).at hlt; have e1 := hv.farm; have e2 := hv.day; have e3 := hv.ln; simp only at c0 c1 c2 e1 e2 e3; subst e1 e2 e3; have FL := mh hv.lines; have FE := mh (Eq.refl F[k]); obtain ⟨f, ef⟩ : ∃ f, F[k] = f := ⟨_, rfl⟩; rw [ef] at c0 c1 c2 ST LK FL; have hll := LK.out.1; obtain ⟨fa, day, K⟩ := f; simp only at c0 c1 c2 LK FL hll; have hal := (brf wo.heap.size wo).alloc mle (.cells #[.int .i64 fa, .int .i64 day, .slice lp K.length lc] 47); have hs1 : (wo.alloc (.cells #[.int .i64 fa, .int .i64 day, .slice lp K.length lc] 47)).heap.size = wo.heap.size + 1 := by rw [World.size_alloc]
   have hal2 := (brf (wo.alloc (.cells #[.int .i64 fa, .int .i64 day, .slice lp K.length lc] 47)).heap.size (wo.alloc (.cells #[.int .i64 fa, .int .i64 day, .slice lp K.length lc] 47))).alloc mle (.cells #[.int .i64 fa, .int .i64 day, .slice none 0 0] 47); obtain ⟨gf, egf⟩ : ∃ g, wo.heap.size = g := ⟨_, rfl⟩; have EGF := mh egf
   have I0 := mh (show CpI wo ((wo.alloc (.cells #[.int .i64 fa, .int .i64 day, .slice lp K.length lc] 47)).alloc (.cells #[.int .i64 fa, .int .i64 day, .slice none 0 0] 47)) (gf + 1) fa day (.slice none 0 0) [] [] from
    ⟨by rw [← egf, ← hs1]; exact Blk.new _ _ _, SepR.nil _ _ _ _ _ _, hal.trans (hal2.mono hal.size), by omega⟩)
   clear hv hb hR hal hal2 hs1 ef
   go_wp2_with fail
   clear egf c0 c1 c2; generalize (wo.alloc (.cells #[.int .i64 fa, .int .i64 day, .slice lp K.length lc] 47)).alloc (.cells #[.int .i64 fa, .int .i64 day, .slice none 0 0] 47) = w1 at *
   go_loopw [23] (fun iv W => ∃ (m : Nat) (v : Value) (L : List RL), m ≤ K.length ∧ iv = .int .i64 m ∧ CpI wo W (gf + 1) fa day v L (K.take m)) (fun iv _ => K.length - (intOf iv).toNat)
   case atStart => exact ⟨0, _, [], Nat.zero_le _, rfl, I0.out⟩
   case round =>
    clear I0; obtain ⟨wi, rfl⟩ : ∃ wi : World, wi = wr := ⟨_, rfl⟩; obtain ⟨m, v, L, hm, rfl, hI⟩ := hrel; have HI := mh hI; have hm0 : (0 : Int) ≤ (m : Int) := inn _; obtain ⟨p2, cc2, rfl, -, -, -, -, -⟩ := hI.rw.own.cut (n := m) (by rw [hI.rw.hl, List.length_take]; omega); have g0 := hI.fb.cell 0; have g1 := hI.fb.cell 1; have g2 := hI.fb.cell 2
    by_cases hlt2 : m < K.length
    ·have hm1 : (m : Int) < (K.length : Int) := by omega
     have ST2 := mh (tsg hlt2); have LD := mh (LK.out.2 K[m] (List.getElem_mem hlt2)); obtain ⟨bl, ol, ⟨dl, ls, dp, dn, dc, se, ki, ar, bo⟩, rfl, hbl2, ⟨d0, d1, d2, d3, d4, d5, d6⟩, hv2⟩ := (FL.out.below hI.bo).at hlt2; have e4 := hv2.dn; simp only at d0 d1 d2 d3 d4 d5 d6 e4; subst e4; have HV := mh hv2; have hba := (brf wi.heap.size wi).alloc mle (.cells #[.int .i64 dl, .int .i64 ls, .slice dp K[m].due.length dc, .int .i64 se, .int .i64 ki, .int .i64 ar, .int .i64 bo] 68); have HBA := mh hba; obtain ⟨gx, egx⟩ : ∃ g, wi.heap.size = g := ⟨_, rfl⟩; have EGX := mh egx; have XB := mh (egx ▸ Blk.new wi #[.int .i64 dl, .int .i64 ls, .slice dp K[m].due.length dc, .int .i64 se, .int .i64 ki, .int .i64 ar, .int .i64 bo] 68); have DR := mh ((hv2.due.recs).below hba); have GBA := mh (hI.fb.below hba); obtain ⟨y, ey⟩ : ∃ y, K[m] = y := ⟨_, rfl⟩; rw [ey] at d2 HBA XB HV DR ST2 LD GBA; have hyl := LD.out; have hlm := HI.out.rw.hl; rw [List.length_take] at hlm; have HLM := mh hlm; clear hv2 hba ey hI hlm
     go_upto_region 10 with (first | (at_builtin; (refine OwnR.appendAny el_int rfl (.const (.slice none 0 0)) (.tmp 28) rfl (gx + 1) _ [] y.due dp dc y.due.length rfl (OwnR.nil _ _ _) DR.out rfl rfl (by rw [World.size_alloc]; have := EGX.out; omega) (by simp; omega) (by decide) ?_); intro v5 w5 hO5 hap5; rw [List.nil_append] at hO5; obtain ⟨p5, c5, rfl, -, -, -, -, -⟩ := hO5.cut (n := y.due.length) rfl; have O5 := mh hO5; have X5 := mh (show Blk w5 gx #[.int .i64 dl, .int .i64 ls, .slice dp y.due.length dc, .int .i64 se, .int .i64 ki, .int .i64 ar, .int .i64 bo] 68 from (hap5.below.block gx (Nat.lt_succ_self gx)).trans XB.out); have B5 := mh (show Below gx wi w5 from (HBA.out.mono (by have := EGX.out; omega)).trans (hap5.below.mono (Nat.le_succ gx))); have G5 := mh (show Blk w5 (gf + 1) #[.int .i64 fa, .int .i64 day, .slice p2 m cc2] 47 from (hap5.below.block (gf + 1) (by have := HI.out.fb.lt; have := EGX.out; omega)).trans GBA.out); have f2 := X5.out.fr 2; have q2 := X5.out.cell 2; clear hO5 hap5) | fail)
     clear f2 q2 g0 g1 g2 d0 d1 d2 d3 d4 d5 d6 egx; have X6 := mh (show Blk (w5.setCell ⟨gx, 2, none⟩ (.slice p5 y.due.length c5)) gx #[.int .i64 dl, .int .i64 ls, .slice p5 y.due.length c5, .int .i64 se, .int .i64 ki, .int .i64 ar, .int .i64 bo] 68 from X5.out.set 2 _); have G6 := mh (show Blk (w5.setCell ⟨gx, 2, none⟩ (.slice p5 y.due.length c5)) (gf + 1) #[.int .i64 fa, .int .i64 day, .slice p2 m cc2] 47 from G5.out.far (by have := HI.out.fb.lt; have := EGX.out; omega) _); have O6 := mh (show OwnR SI (w5.setCell ⟨gx, 2, none⟩ (.slice p5 y.due.length c5)) 3 (gx + 1) (.slice p5 y.due.length c5) y.due from O5.out.blocks fun g _ hB _ => setCell_far _ (by omega) _ _); have B6 := mh (show Below wi.heap.size wi (w5.setCell ⟨gx, 2, none⟩ (.slice p5 y.due.length c5)) from by rw [EGX.out]; exact B5.out.setCell mle _); have V6 := mh (show LVw (NewQ wi.heap.size) (w5.setCell ⟨gx, 2, none⟩ (.slice p5 y.due.length c5)) ⟨dl, ls, p5, y.due.length, c5, se, ki, ar, bo⟩ y from LV.lvw (r := ⟨dl, ls, dp, y.due.length, dc, se, ki, ar, bo⟩) HV.out (O6.out.mono (by have := EGX.out; omega))); generalize w5.setCell ⟨gx, 2, none⟩ (.slice p5 y.due.length c5) = w6 at *; have x0 := X6.out.cell 0; have x1 := X6.out.cell 1; have x2 := X6.out.cell 2; have x3 := X6.out.cell 3; have x4 := X6.out.cell 4; have x5 := X6.out.cell 5; have x6 := X6.out.cell 6; have g2 := G6.out.cell 2; have OW := mh (HI.out.rw.own.below B6.out)
     go_wp2_with (first | (at_builtin; (refine OwnR.append el_line rfl (.tmp 32) (.tmp 34) rfl (gf + 1 + 1) _ L ⟨dl, ls, p5, y.due.length, c5, se, ki, ar, bo⟩ #[.int .i64 dl, .int .i64 ls, .slice p5 y.due.length c5, .int .i64 se, .int .i64 ki, .int .i64 ar, .int .i64 bo] rfl OW.out rfl (by simp [Act.eval]) (show gf + 1 < w6.heap.size from G6.out.lt) (by have := HLM.out; omega) (by decide) ?_); intro v7 w7 hO7 hap7; obtain ⟨p7, c7, rfl, -, -, -, -, -⟩ := hO7.cut (n := m + 1) (by rw [lap, HLM.out]; simp; omega); have HP := mh (HI.out.push B6.out V6.out hO7 hap7 (Nat.le_succ _)); have G7 := mh (show Blk w7 (gf + 1) #[.int .i64 fa, .int .i64 day, .slice p2 m cc2] 47 from (hap7.below.block (gf + 1) (Nat.lt_succ_self _)).trans G6.out); have f2 := G7.out.fr 2; have q2 := G7.out.cell 2; clear hO7 hap7) | fail)
     go_roundw
     case rel => exact ⟨m + 1, _, _, by omega, by go_num, by rw [ST2.out]; exact HP.out⟩
     case measure => simp [intOf]; omega
    ·obtain rfl : m = K.length := by omega
     have hI' := hI; rw [List.take_length] at hI'; have OWF := mh (HR.out.own.below hI.bo); have BI := mh (HB.out.trans (hI.bo.mono HB.out.size)); have FI := mh (show FVs LVw (NewQ wo.heap.size) wi ⟨fa, day, p2, K.length, cc2⟩ ⟨fa, day, K⟩ from ⟨rfl, rfl, L, (hI'.rw.base (Nat.zero_le _)).change LVw.chgs mle fun b q _ => ⟨rfl, by have := EGF.out; unfold NewQ at q ⊢; omega⟩⟩); have HRL := mh (show R.length ≤ 1000 by rw [HR.out.hl, List.length_take]; omega); clear hI hI'
     go_wp2_with (first | (at_builtin; (refine OwnR.append el_farm rfl (.tmp 38) (.tmp 40) rfl w.heap.size _ R ⟨fa, day, p2, K.length, cc2⟩ #[.int .i64 fa, .int .i64 day, .slice p2 K.length cc2] rfl OWF.out rfl (by simp [Act.eval]) BI.out.size (by have := HRL.out; omega) (by decide) ?_); intro v8 w8 hO8 hap8; have PU := mh (HR.out.push (FVs.chgs LVw.chgs) (Q' := NewQ w.heap.size) HI.out.bo.size (fun b q hl => ⟨HI.out.bo.block b hl, q⟩) (Nat.le_succ _) (fun b q => Nat.le_trans HB.out.size q) FI.out hO8 hap8); have B8 := mh (BI.out.trans hap8.below); clear hO8 hap8) | fail)
     go_roundw
     case rel => exact ⟨k + 1, _, by omega, by go_num, by rw [ST.out]; exact PU.out, B8.out⟩
     case measure => simp [intOf]; omega
  ·obtain rfl : k = F.length := by omega
   rw [List.take_length] at hR; have HR2 := mh hR; clear hR hb
   go_wp2_with fail
   go_ret
   exact ⟨_, R, rfl, HR2.out, HB.out⟩
section
variable {Q : Nat → Prop} {w w5 w' W : World} {T : TypeId} {B n c g : Nat} {p : Option Addr} {R : List RF} {F : List FarmF}
end
def put7 (w : World) (g o : Nat) (r : RL) : World := ((((((w.setCell ⟨g, o, none⟩ (.int .i64 r.decl)).setCell ⟨g, o + 1, none⟩ (.int .i64 r.sch)).setCell ⟨g, o + 2, none⟩ (.slice r.dp r.dn r.dc)).setCell ⟨g, o + 3, none⟩ (.int .i64 r.season)).setCell ⟨g, o + 4, none⟩ (.int .i64 r.kind)).setCell ⟨g, o + 5, none⟩ (.int .i64 r.area)).setCell ⟨g, o + 6, none⟩ (.int .i64 r.border)
theorem put7_sz (w : World) (g o : Nat) (r : RL) : (put7 w g o r).heap.size = w.heap.size := by unfold put7; simp only [setCell_sz]
theorem put7_far (w : World) {g b : Nat} (h : b ≠ g) (o : Nat) (r : RL) : (put7 w g o r).heap[b]? = w.heap[b]? := by
 unfold put7; rw [setCell_far _ h, setCell_far _ h, setCell_far _ h, setCell_far _ h, setCell_far _ h, setCell_far _ h, setCell_far _ h]
theorem put7_low {w0 w : World} {B g : Nat} (h : Below B w0 w) (hg : B ≤ g) (o : Nat) (r : RL) : Below B w0 (put7 w g o r) := ((((((h.setCell hg _).setCell hg _).setCell hg _).setCell hg _).setCell hg _).setCell hg _).setCell hg _
theorem OwnR.put1 {w : World} {T : TypeId} {B n c g j : Nat} {L : List RL} {a : RL} (h : OwnR SL w T B (.slice (some ⟨g, 0, none⟩) n c) (L.set j a)) (hj : j < L.length) (i : Nat) (hi : i < 7) (u : Value) (a' : RL) (ha : lCells a' = (lCells a).set i u) :
  OwnR SL (w.setCell ⟨g, j * 7 + i, none⟩ u) T B (.slice (some ⟨g, 0, none⟩) n c) (L.set j a') := by
 have hj' : j < (L.set j a).length := by rw [List.length_set]; exact hj
 obtain ⟨g', e, -, -, -, -, -, hst⟩ := h.at hj'
 cases e
 have := hst i u a' hi (by show lCells a' = _; rw [ha]; show _ = (lCells (L.set j a)[j]).set i u; rw [List.getElem_set_self])
 rwa [List.set_set] at this
theorem OwnR.put7 {w : World} {T : TypeId} {B n c g j : Nat} {L : List RL} (h : OwnR SL w T B (.slice (some ⟨g, 0, none⟩) n c) L) (hj : j < L.length) (r : RL) : OwnR SL (put7 w g (j * 7) r) T B (.slice (some ⟨g, 0, none⟩) n c) (L.set j r) := by
 have h0 : OwnR SL w T B (.slice (some ⟨g, 0, none⟩) n c) (L.set j L[j]) := by rw [List.set_getElem_self]; exact h
 obtain ⟨a0, a1, a2, a3, a4, a5, a6, a7, a8⟩ := r; generalize L[j] = b at h0; obtain ⟨b0, b1, b2, b3, b4, b5, b6, b7, b8⟩ := b; have h1 := h0.put1 hj 0 (by omega) (.int .i64 a0) ⟨a0, b1, b2, b3, b4, b5, b6, b7, b8⟩ rfl; have h2 := h1.put1 hj 1 (by omega) (.int .i64 a1) ⟨a0, a1, b2, b3, b4, b5, b6, b7, b8⟩ rfl; have h3 := h2.put1 hj 2 (by omega) (.slice a2 a3 a4) ⟨a0, a1, a2, a3, a4, b5, b6, b7, b8⟩ rfl; have h4 := h3.put1 hj 3 (by omega) (.int .i64 a5) ⟨a0, a1, a2, a3, a4, a5, b6, b7, b8⟩ rfl; have h5 := h4.put1 hj 4 (by omega) (.int .i64 a6) ⟨a0, a1, a2, a3, a4, a5, a6, b7, b8⟩ rfl; have h6 := h5.put1 hj 5 (by omega) (.int .i64 a7) ⟨a0, a1, a2, a3, a4, a5, a6, a7, b8⟩ rfl; exact h6.put1 hj 6 (by omega) (.int .i64 a8) ⟨a0, a1, a2, a3, a4, a5, a6, a7, a8⟩ rfl
section
variable {w W W' : World} {t q q' gy : Nat} {l : List Int} {ya : Array Value} {v v' : Value} {R R' : List RF} {G G' : List FarmF}
end
end Go.Proofs.YtmlfcpglhipjgaaGreat
namespace Go.Proofs.YtmlfcpglhipjgaaGreat
open Go.RowKit Sc As
section
variable {P : Program} {ops : Array Oper} {Q : Exit → Act → World → Prop} {md : Region.Mode} {S : World → Prop} {k0 : Nat}
theorem wpAnyH_of_any : ∀ (fuel : Nat) (listed : Array Bool) (a : Act) (w : World), wpAny P md ops Q fuel listed a w → wpAnyH P md ops Q (fun _ => True) fuel listed a w
 | 0, _, _, _, h => h
 | fuel + 1, _, _, _, h => ⟨h.1, fun i hi => wpOp_mono (fun a' w' h' => ⟨trivial, wpAnyH_of_any fuel _ a' w' h'⟩) (h.2 i hi)⟩
theorem wpAnyH_of_K (S : World → Prop) (k0 : Nat) {fuel : Nat} {listed : Array Bool} {a : Act} {w : World} (hS : S w) (h : S w → wpAnyK P md ops Q S k0 fuel listed a w) : wpAnyH P md ops Q (fun _ => True) fuel listed a w :=
 wpAnyH_of_any _ _ _ _ (wpAny_of_K _ _ _ _ (h hS))
end
/-! ### plain -/
def swp {α : Type} (L : List α) (i j : Nat) : List α := match L[i]?, L[j]? with
 | some a, some b => (L.set i b).set j a
 | _, _ => L
theorem swp_eq {α : Type} {L : List α} {i j : Nat} (hi : i < L.length) (hj : j < L.length) : swp L i j = (L.set i L[j]).set j L[i] := by
 unfold swp; rw [List.getElem?_eq_getElem hi, List.getElem?_eq_getElem hj]
theorem swp_len {α : Type} (L : List α) (i j : Nat) : (swp L i j).length = L.length := by
 unfold swp
 split
 ·rw [List.length_set, List.length_set]
 ·rfl
theorem swp_at {α : Type} {L : List α} {i j : Nat} (hi : i < L.length) (hj : j < L.length) (p : Nat) : (swp L i j)[p]? = L[if p = j then i else if p = i then j else p]? := by
 rw [swp_eq hi hj]
 by_cases e : p = j
 ·subst e
  rw [if_pos rfl, List.getElem?_set_self (by rw [List.length_set]; exact hj), List.getElem?_eq_getElem hi]
 ·rw [if_neg e, List.getElem?_set_ne (Ne.symm e)]
  by_cases e2 : p = i
  ·subst e2
   rw [if_pos rfl, List.getElem?_set_self hi, List.getElem?_eq_getElem hj]
  ·rw [if_neg e2, List.getElem?_set_ne (Ne.symm e2)]
def swapN {α : Type} (L : List α) : Nat → List α
 | 0 => L
 | k + 1 => swp (swapN L k) k (L.length - 1 - k)
theorem swapN_len {α : Type} (L : List α) : ∀ k, (swapN L k).length = L.length
 | 0 => rfl
 | k + 1 => by show (swp _ _ _).length = _; rw [swp_len, swapN_len L k]
theorem swapN_at {α : Type} (L : List α) : ∀ k, k ≤ L.length / 2 → ∀ p, p < L.length → (swapN L k)[p]? = if p < k ∨ L.length - k ≤ p then L[L.length - 1 - p]? else L[p]?
 | 0, _, p, hp => by rw [if_neg (by omega)]; rfl
 | k + 1, hk, p, hp => by
   have ih := swapN_at L k (by omega); have hl := swapN_len L k
   show (swp (swapN L k) k (L.length - 1 - k))[p]? = _
   rw [swp_at (by omega) (by omega)]
   by_cases e : p = L.length - 1 - k
   ·rw [if_pos e, ih k (by omega), if_neg (by omega), if_pos (by omega)]
    congr 1; omega
   ·rw [if_neg e]
    by_cases e2 : p = k
    ·rw [if_pos e2, ih _ (by omega), if_neg (by omega), if_pos (by omega), e2]
    ·rw [if_neg e2, ih p hp]
     by_cases c : p < k ∨ L.length - k ≤ p
     ·rw [if_pos c, if_pos (by omega)]
     ·rw [if_neg c, if_neg (by omega)]
theorem swapN_half {α : Type} (L : List α) : swapN L (L.length / 2) = L.reverse := by
 apply List.ext_getElem? 
 intro p
 by_cases hp : p < L.length
 ·rw [swapN_at L _ mle p hp, List.getElem?_reverse hp]
  by_cases c : p < L.length / 2 ∨ L.length - L.length / 2 ≤ p
  ·rw [if_pos c]
  ·rw [if_neg c]; congr 1; omega
 ·rw [List.getElem?_eq_none (by rw [swapN_len]; omega), List.getElem?_eq_none (by rw [List.length_reverse]; omega)]
/-! ### memory -/
theorem SepR.perm {ρ β : Type} {S : Shape ρ} {V : (Nat → Prop) → World → ρ → β → Prop} {T : TypeId} {B : Nat} {Q : Nat → Prop} {W w' : World} {v : Value} {R R' : List ρ} {K K' : List β} (hV : Chgs V) (h : SepR S V T B Q W v R K)
  (hs : W.heap.size ≤ w'.heap.size) (hb : ∀ b, Q b → b < W.heap.size → v.ownBlock ≠ some b → w'.heap[b]? = W.heap[b]?) (hO : OwnR S w' T B v R') (hl : R'.length = K'.length) (σ : Nat → Nat) (inj : ∀ j k, σ j = σ k → j = k)
  (hR : ∀ k (a : k < R'.length), ∃ a' : σ k < R.length, R'[k] = R[σ k]) (hK : ∀ k (a : k < K'.length), ∃ a' : σ k < K.length, K'[k] = K[σ k]) : SepR S V T B Q w' v R' K' := by
 obtain ⟨h1, h2, h3, φ, h4, h5, h6⟩ := h; refine ⟨hl, hO, h3, fun k b => φ (σ k) b ∧ b < W.heap.size, fun k a c => ?_, fun k b q => h5 _ b q.1, fun j k b e p q => h6 _ _ b (fun g => e (inj _ _ g)) p.1 q.1⟩; obtain ⟨a', e1⟩ := hR k a; obtain ⟨c', e2⟩ := hK k c; rw [e1, e2]; exact hV _ _ _ _ _ _ (h4 _ a' c') hs fun b q hl => ⟨hb b (h5 _ b q).1 hl (h5 _ b q).2, q, hl⟩
theorem SepR.swapLine {Q : Nat → Prop} {W : World} {T : TypeId} {B : Nat} {v : Value} {R : List RF} {F : List FarmF} (h : SepR SF (FVs LV) T B Q W v R F) {k : Nat} (hk : k < R.length) (hk' : k < F.length)
  {i j : Nat} (hi : i < F[k].lines.length) (hj : j < F[k].lines.length) (hij : i ≠ j) : ∃ (gl : Nat) (ri rj : RL), R[k].lp = some ⟨gl, 0, none⟩ ∧ Q gl ∧ gl < W.heap.size ∧ (∀ m, W.frozen? ⟨gl, m, none⟩ = false) ∧
   (∀ m u, (lCells ri)[m]? = some u → W.cell? ⟨gl, i * 7 + m, none⟩ = some u) ∧ (∀ m u, (lCells rj)[m]? = some u → W.cell? ⟨gl, j * 7 + m, none⟩ = some u) ∧
   (∀ m, (put7 W gl (i * 7) rj).frozen? ⟨gl, m, none⟩ = false) ∧ (∀ m u, (lCells rj)[m]? = some u → (put7 W gl (i * 7) rj).cell? ⟨gl, j * 7 + m, none⟩ = some u) ∧
   SepR SF (FVs LV) T B Q (put7 (put7 W gl (i * 7) rj) gl (j * 7) ri) v R (F.set k { F[k] with lines := swp F[k].lines i j }) := by
 obtain ⟨φ, h1, h2, h3⟩ := h.upd (FVs.chgs LV.chgs) hk hk'; obtain ⟨L, hL⟩ := h1.lines; have hiL : i < L.length := by rw [hL.hl]; exact hi
 have hjL : j < L.length := by rw [hL.hl]; exact hj
 obtain ⟨gl, e, -, -, glt, hci, hfz, -⟩ := hL.own.at hiL; obtain ⟨g', e', -, -, -, hcj, -, -⟩ := hL.own.at hjL; rw [e] at e'
 cases e'
 have gφ : φ gl := hL.oq gl (by rw [e]; rfl); have keep : ∀ b, b ≠ gl → (put7 (put7 W gl (i * 7) L[j]) gl (j * 7) L[i]).heap[b]? = W.heap[b]? := fun b hn => (put7_far _ hn _ _).trans (put7_far _ hn _ _)
 have hsz : (put7 (put7 W gl (i * 7) L[j]) gl (j * 7) L[i]).heap.size = W.heap.size := by rw [put7_sz, put7_sz]
 have mid : (∀ m, (put7 W gl (i * 7) L[j]).frozen? ⟨gl, m, none⟩ = false) ∧ (∀ m u, (lCells L[j])[m]? = some u → (put7 W gl (i * 7) L[j]).cell? ⟨gl, j * 7 + m, none⟩ = some u) := by
  have o := hL.own; rw [e] at o; obtain ⟨g', e', -, -, -, hc, hf, -⟩ := (o.put7 hiL L[j]).at (k := j) (by rw [List.length_set]; exact hjL)
  cases e'
  rw [List.getElem_set_ne hij] at hc; exact ⟨hf, hc⟩
 refine ⟨gl, L[i], L[j], e, (h2 gl gφ).1, glt, hfz, hci, hcj, mid.1, mid.2, ?_⟩
 have own : OwnR SL (put7 (put7 W gl (i * 7) L[j]) gl (j * 7) L[i]) 68 0 (.slice R[k].lp R[k].ln R[k].lc) (swp L i j) := by
  have o := hL.own; rw [e] at o ⊢; rw [swp_eq hiL hjL]; exact (o.put7 hiL L[j]).put7 (by rw [List.length_set]; exact hjL) L[i]
 have at_ : ∀ {α : Type} (M : List α) (ai : i < M.length) (aj : j < M.length) (p : Nat) (a : p < (swp M i j).length), ∃ a' : (if p = j then i else if p = i then j else p) < M.length, (swp M i j)[p] = M[if p = j then i else if p = i then j else p] := fun M ai aj p a => by
  rw [swp_len] at a; have ha : (if p = j then i else if p = i then j else p) < M.length := by split; exact ai; split; exact aj; exact a
  refine ⟨ha, ?_⟩
  have := swp_at ai aj p; rw [List.getElem?_eq_getElem (by rw [swp_len]; exact a), List.getElem?_eq_getElem ha] at this; exact Option.some.inj this
 have inner := hL.perm LV.chgs (w' := put7 (put7 W gl (i * 7) L[j]) gl (j * 7) L[i]) (R' := swp L i j) (K' := swp F[k].lines i j) (by rw [hsz]; exact Nat.le_refl _) (fun b q _ hn => keep b fun eb => hn (by rw [e, eb]; rfl)) own (by rw [swp_len, swp_len, hL.hl])
  (fun p => if p = j then i else if p = i then j else p) (fun a b hab => by (try simp only at hab); split at hab <;> split at hab <;> (try split at hab) <;> (try split at hab) <;> omega) (fun p a => at_ L hiL hjL p a) (fun p a => at_ F[k].lines hi hj p a)
 have outer := h3 _ R[k] { F[k] with lines := swp F[k].lines i j } φ Q (by rw [hsz]; exact Nat.le_refl _) (by rw [List.set_getElem_self]; exact h.own.blocks fun g hg _ _ => keep g fun eg => (h2 g (eg ▸ gφ)).2 hg)
  ⟨h1.farm, h1.day, swp L i j, inner⟩ (fun b q => ⟨.inl q, (h2 b q).1⟩) fun b q _ => ⟨fun hn _ => keep b fun eb => hn (eb ▸ gφ), q⟩
 rwa [List.set_getElem_self] at outer
end Go.Proofs.YtmlfcpglhipjgaaGreat
