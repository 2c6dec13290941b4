/-
  PACKED (pack8.py): what is needed of the texts Ac, Ad, Ae, Ec, Ev.
-/
import Derived.Test.YtmlfcpglhipjgaaGreatM5
set_option maxRecDepth 100000
set_option maxHeartbeats 8000000
open Go.Value renaming int → I
open Go.IntKind renaming i64 → O
namespace Go.Proofs.YtmlfcpglhipjgaaGreat
open Go.RowKit Sc As
theorem run_copy_rowk {P : Program} (w : World) (dT sT ty elem : TypeId) (k : Nat) (g o dLen dCap : Nat) (a : Addr) (sLen sCap : Nat) (cur : Array Value) (t : TypeId) (cs : List Value)
  (hu : P.underlying dT = some (.slice elem)) (hs : (P.info? elem).map (·.size) = some k)
  (hg : w.heap[g]? = some (.cells cur t (0, 0))) (hn : cs.length = Nat.min sLen dLen * k)
  (hsrc : ∀ j v, cs[j]? = some v → w.cell? (a.add j) = some v) (hfit : o + cs.length ≤ cur.size) (h1 : ∀ v ∈ cs, v.oneCell' = true) :
  (Builtin.copy_ #[dT, sT] ty #[.slice (some ⟨g, o, none⟩) dLen dCap, .slice (some a) sLen sCap]).run P w =
   .ok (goInt (Nat.min sLen dLen : Nat)) (w.setRow g (cur.toList.take o ++ cs ++ cur.toList.drop (o + cs.length)).toArray) := by
 have hl := run_loadCells_list (P := P) w a cs hsrc; rw [hn] at hl; have hst := run_storeCells_at P g o t cs 0 cur w hg (by simpa using hfit) h1
 cases hq : P.info? elem with
 | none => simp [hq] at hs
 | some i =>
   have hi : i.size = k := by simpa [hq] using hs
   simp [Builtin.copy_, run_underlying hu, Builtin.lenOf, Builtin.firstCells, sizeOf, typeInfo, hq, hi, hl, hst]
theorem run_copy_zero {P : Program} (w : World) (dT sT ty elem : TypeId) (k : Nat) (dp sp : Option Addr) (dCap sLen sCap : Nat)
  (hu : P.underlying dT = some (.slice elem)) (hs : (P.info? elem).map (·.size) = some k) :
  (Builtin.copy_ #[dT, sT] ty #[.slice dp 0 dCap, .slice sp sLen sCap]).run P w = .ok (goInt (0 : Nat)) w := by
 cases hq : P.info? elem with
 | none => simp [hq] at hs
 | some i =>
   cases dp <;> cases sp <;> simp [Builtin.copy_, run_underlying hu, Builtin.lenOf, Builtin.firstCells, sizeOf, typeInfo, hq, loadCells, loadCellsFrom, storeCells]
theorem OwnR.stepShift {α : Type} {S : Shape α} {P : Program} {T TS : TypeId} {bytes : Nat} (he : Elem S P T TS bytes) {w : World} {ops : Array Oper} {o : Oper} {a : Act} {K : Act → World → Prop} {Q : Exit → Act → World → Prop} {E : Prop} (hgd : o.guard = none) (d s : Operand)
  (ho : o.op = .call { callee := .builtin .copy, args := #[d, s], argTypes := #[TS, TS] }) (B : Nat) (v : Value) (L : List α) (i m : Nat) (hown : OwnR S w T B v L) (hm : i + 1 + m = L.length) (g : Nat) (hv : v.ownBlock = some g)
  (dp sp : Option Addr) (dc sc : Nat) (hd : a.eval d = .slice dp m dc) (hs : a.eval s = .slice sp (m + 1) sc) (hdp : 0 < m → dp = some ⟨g, (i + 1) * S.k, none⟩) (hsp : 0 < m → sp = some ⟨g, i * S.k, none⟩)
  (h : ∀ w', OwnR S w' T B v (L.take (i + 1) ++ (L.drop i).take m) → Appends w w' B 0 v v → K (a.put o.dst (goInt (m : Nat))) w') : if Region.wanted o (yielded ops a.tmps) = true then Oper.wp P o a w K Q else E := by
 have hw : Region.wanted o (yielded ops a.tmps) = true := by simp [Region.wanted, hgd]
 rw [if_pos hw]; obtain ⟨i0, z, e1, e2, e3, e4, e5⟩ := he.ex; have hsz : (P.info? T).map (·.size) = some S.k := by rw [e1]; simp [e3]
 rcases Nat.eq_zero_or_pos m with rfl | hpos
 ·have hrun := run_copy_zero (P := P) w TS TS o.type T S.k dp sp dc 1 sc he.ts hsz
  unfold Oper.wp
  simp [execOp, ho, resolve, invoke, builtin, hd, hs, hrun, Result.andThen]
  refine h w ?_ ⟨brf _ _, Nat.le_refl _, fun _ _ _ => rfl, .inl rfl⟩
  rw [List.take_zero, List.append_nil, List.take_of_length_le (by omega)]; exact hown
 ·obtain rfl := hdp hpos
  obtain rfl := hsp hpos
  rcases hown.2 with ⟨hv0, hn⟩ | ⟨g', cap, cur, hv0, hB, hg, hle, hmx, hcs, ht⟩
  ·omega
  obtain rfl : g' = g := by rw [hv0] at hv; simpa [Value.ownBlock] using hv
  have hNk : i * S.k + S.k + m * S.k = L.length * S.k := by rw [← hm, Nat.add_mul, Nat.add_mul]; omega
  have hLk : L.length * S.k ≤ cap * S.k := Nat.mul_le_mul_right _ hle; have hi1 : (i + 1) * S.k = i * S.k + S.k := by rw [Nat.add_mul]; omega
  have hcsl : (S.flat ((L.drop i).take m)).length = m * S.k := by rw [S.flat_len, List.length_take, List.length_drop]; congr 1; omega
  have hcse : S.flat ((L.drop i).take m) = ((S.flat L).drop (i * S.k)).take (m * S.k) := by rw [S.flat_take, S.flat_drop L i (by omega)]
  have hrun := run_copy_rowk (P := P) w TS TS o.type T S.k g' ((i + 1) * S.k) m dc ⟨g', i * S.k, none⟩ (m + 1) sc cur T (S.flat ((L.drop i).take m)) he.ts hsz hg
   (by rw [hcsl]; congr 1; exact (Nat.min_eq_right (by omega)).symm)
   (fun j u hu => by
    rw [Go.WideShapes.add_plain]; have hj : j < m * S.k := by rw [← hcsl]; exact (List.getElem?_eq_some_iff.1 hu).1
    rw [hcse, List.getElem?_take, if_pos hj, List.getElem?_drop, ← ht, List.getElem?_take, if_pos (by omega)] at hu; simp only [World.cell?, hg]
    simpa using hu)
   (by rw [hcsl, hcs, hi1]; omega) (S.flat_ones _)
  have hcl : cur.toList.length = cap * S.k := by rw [Array.length_toList, hcs]
  have hmin : Nat.min (m + 1) m = m := Nat.min_eq_right (by omega); rw [hmin] at hrun; unfold Oper.wp
  simp [execOp, ho, resolve, invoke, builtin, hd, hs, hrun, Result.andThen]
  have hX := setRow_heap w g' cur (cur.toList.take ((i + 1) * S.k) ++ S.flat ((L.drop i).take m) ++ cur.toList.drop ((i + 1) * S.k + (S.flat ((L.drop i).take m)).length)).toArray T (0, 0) hg; have key := h (w.setRow g' (cur.toList.take ((i + 1) * S.k) ++ S.flat ((L.drop i).take m) ++ cur.toList.drop ((i + 1) * S.k + (S.flat ((L.drop i).take m)).length)).toArray) ?_ ?_
  ·rw [List.append_assoc] at key
   exact key
  ·have hlen : (L.take (i + 1) ++ (L.drop i).take m).length = L.length := by rw [lap, List.length_take, List.length_take, List.length_drop]; omega
   refine ⟨S.flat_len _, .inr ⟨g', cap, _, by rw [hlen]; exact hv0, hB, hX, by rw [hlen]; exact hle, hmx, ?_, ?_⟩⟩
   ·simp only [List.size_toArray, lap, List.length_take, List.length_drop, hcsl, hcl, hi1]
    omega
   ·rw [hlen]
    simp only [List.append_assoc]; rw [← List.append_assoc, List.take_append_of_le_length (by rw [lap, List.length_take, hcsl, hcl, hi1]; omega), List.take_of_length_le (by rw [lap, List.length_take, hcsl, hcl, hi1]; omega), S.flat_append]
    congr 1
    rw [S.flat_take, ← ht, List.take_take, Nat.min_eq_left (by rw [hi1]; omega)]
  ·exact ⟨⟨rfl, rfl, rfl, by simp [World.setRow], fun k hk => setRow_other w g' k _ (by omega)⟩, by simp [World.setRow], fun k _ hne => setRow_other w g' k _ (fun e => hne (by rw [hv, e])), .inl rfl⟩
def acCells (r : RY) (f : RF) (va vr : Value) : List Value := [.slice r.sp r.sn r.sc, .slice r.tp r.tn r.tc, I O r.due, I O r.last, I O r.mille, .slice r.gp r.gn r.gc, I O r.cap, I O r.env, I O r.unit, I O r.width, I O f.farm, I O f.day, .slice f.lp f.ln f.lc, va, vr]
structure AcAt (w : World) (t : Nat) (r : RY) (f : RF) (va vr : Value) : Prop where
 heap : w.heap[t]? = some (.cells (acCells r f va vr).toArray 127 (0, 0))
section
variable {w w' : World} {t : Nat} {r : RY} {f : RF} {va vr : Value}
theorem AcAt.lt (h : AcAt w t r f va vr) : t < w.heap.size := (Array.getElem?_eq_some_iff.1 h.heap).1
theorem AcAt.cell (h : AcAt w t r f va vr) (i : Nat) (u : Value) (hu : (acCells r f va vr)[i]? = some u) : w.cell? ⟨t, i, none⟩ = some u := by
 simp only [World.cell?, h.heap]
 simpa using hu
theorem AcAt.frozen (h : AcAt w t r f va vr) (i : Nat) : w.frozen? ⟨t, i, none⟩ = false := by simp [World.frozen?, h.heap]
theorem AcAt.same (h : AcAt w t r f va vr) (e : w'.heap[t]? = w.heap[t]?) : AcAt w' t r f va vr := ⟨e.trans h.heap⟩
theorem AcAt.below {B : Nat} (h : AcAt w t r f va vr) (hb : Below B w w') (hB : t < B) : AcAt w' t r f va vr := h.same (hb.block t hB)
theorem AcAt.setR (h : AcAt w t r f va vr) (v : Value) : AcAt (w.setCell ⟨t, 14, none⟩ v) t r f va v := ⟨by
 simp only [World.setCell, Array.getElem?_modify, if_true, h.heap, Option.map_some, acCells]
 rfl⟩
theorem AcAt.setA (h : AcAt w t r f va vr) (v : Value) : AcAt (w.setCell ⟨t, 13, none⟩ v) t r f v vr := ⟨by
 simp only [World.setCell, Array.getElem?_modify, if_true, h.heap, Option.map_some, acCells]
 rfl⟩
theorem AcAt.box (w : World) (r : RY) (f : RF) (va vr : Value) : AcAt (w.alloc (.cells (acCells r f va vr).toArray 127)) w.heap.size r f va vr := ⟨by show (w.heap.push _)[w.heap.size]? = _; exact Array.getElem?_push_size⟩
end
structure Chg (t : Nat) (v v' : Value) (w w' : World) : Prop where
 os : w'.os = w.os
 tape : w'.tape = w.tape
 output : w'.output = w.output
 size : w.heap.size ≤ w'.heap.size
 block : ∀ i, i < w.heap.size → i ≠ t → v.ownBlock ≠ some i → w'.heap[i]? = w.heap[i]?
 own : v'.ownBlock = v.ownBlock ∨ ∀ g, v'.ownBlock = some g → w.heap.size ≤ g
theorem Chg.of_below {t : Nat} {v : Value} {w w' : World} (h : Below w.heap.size w w') : Chg t v v w w' := ⟨h.os, h.tape, h.output, h.size, fun i hi _ _ => h.block i hi, .inl rfl⟩
theorem Chg.trans {t : Nat} {v v' v'' : Value} {a b c : World} (h : Chg t v v' a b) (k : Chg t v' v'' b c) : Chg t v v'' a c := by
 have e : ∀ i, i < a.heap.size → v.ownBlock ≠ some i → v'.ownBlock ≠ some i := fun i hi hv e => by
  rcases h.own with h1 | h1
  ·exact hv (h1 ▸ e)
  ·have := h1 i e; omega
 refine ⟨k.os.trans h.os, k.tape.trans h.tape, k.output.trans h.output, Nat.le_trans h.size k.size, fun i hi ht hv => (k.block i (nll hi h.size) ht (e i hi hv)).trans (h.block i hi ht hv), ?_⟩
 rcases k.own with k1 | k1
 ·rcases h.own with h1 | h1
  ·exact .inl (k1.trans h1)
  ·exact .inr fun g hg => h1 g (k1 ▸ hg)
 ·exact .inr fun g hg => Nat.le_trans h.size (k1 g hg)
theorem Chg.stp {t : Nat} {v v' : Value} {a b c : World} (h : Chg t v v' a b) (k : Below b.heap.size b c) : Chg t v v' a c := h.trans (.of_below k)
theorem Chg.low {t B : Nat} {v v' : Value} {w w' : World} (h : Chg t v v' w w') (hB : B ≤ t) (hs : B ≤ w.heap.size) (hv : ∀ g, v.ownBlock = some g → B ≤ g) : Below B w w' :=
 ⟨h.os, h.tape, h.output, h.size, fun i hi => h.block i (by omega) (by omega) fun e => by have := hv i e; omega⟩
def Apart (u v : Value) : Prop := ∀ g, u.ownBlock = some g → v.ownBlock ≠ some g
theorem Chg.keep {α : Type} {S : Shape α} {t B : Nat} {v v' u : Value} {w w' : World} {T : TypeId} {L : List α} (h : Chg t v v' w w') (hu : OwnR S w T B u L) (hB : t < B) (ha : Apart u v) : OwnR S w' T B u L ∧ Apart u v' := by
 refine ⟨hu.blocks fun g hg hBg hl => h.block g hl (by omega) (ha g hg), fun g hg => ?_⟩
 rcases h.own with h1 | h1
 ·rw [h1]; exact ha g hg
 ·intro e
  have := h1 g e; have := (hu.lt hg).2; omega
theorem elem_rsn : Tryz.prog.elem 54 = 70 := by kernel_rfl
theorem cells_rsn : Tryz.prog.cellsOf 70 = 3 := by kernel_rfl
theorem run_rsn_from (g n c k : Nat) (hk : k ≤ n) (hn : n ≤ c) : ∃ q c', (0 < n - k → q = some ⟨g, k * 3, none⟩) ∧ ∀ W, (Instr.slice 54 (.slice (some ⟨g, 0, none⟩) n c) (some (I O (k : Int))) none none).run Tryz.prog W = .ok (.slice q (n - k) c') W := by
 have hrun : ∀ W, (Instr.slice 54 (.slice (some ⟨g, 0, none⟩) n c) (some (I O (k : Int))) none none).run Tryz.prog W = .ok (sliced (some ⟨g, 0, none⟩) k n c 3) W := fun W => by
  have hs : (sizeOf (Tryz.prog.elem 54)).run Tryz.prog W = .ok 3 W := by
   obtain ⟨i0, _, h1, _, h3, _⟩ := el_rsn.ex; rw [elem_rsn, run_sizeOf W h1, cells_rsn]
  rw [run_slice_l (P := Tryz.prog) W 54 (some ⟨g, 0, none⟩) n c (by rw [elem_rsn]; exact el_rsn.ts) .i64 (k : Int) (by omega) (by omega), hs]
  rfl
 refine ⟨if c = k then some ⟨g, 0, none⟩ else some ⟨g, k * 3, none⟩, c - k, fun h => if_neg (by omega), fun W => ?_⟩
 rw [hrun W]; unfold sliced
 by_cases hc : c = k
 ·rw [if_pos hc, if_pos hc]
 ·rw [if_neg hc, if_neg hc]
  simp only [Option.map_some, Go.WideShapes.add_plain, Nat.zero_add]
end Go.Proofs.YtmlfcpglhipjgaaGreat
namespace Go.Proofs.YtmlfcpglhipjgaaGreat
open Go.RowKit Sc As
def RsG (t : Nat) (r : RY) (f : RF) (va vr : Value) (L : List Rsn) (w : World) (e : Ending) (w' : World) : Prop :=
 e = .returned (.tuple #[]) ∧ ∃ vr', AcAt w' t r f va vr' ∧ OwnR SRn w' 70 (t + 1) vr' L ∧ Chg t vr vr' w w'
theorem Chg.of_app {t B H : Nat} {v v' : Value} {w w' : World} (h : Appends w w' B H v v') (hH : v'.ownBlock = v.ownBlock ∨ w.heap.size ≤ H) : Chg t v v' w w' :=
 ⟨h.below.os, h.below.tape, h.below.output, h.size, fun i hi _ hv => h.far i hi hv, by
  rcases h.block with e | e
  ·exact .inl e
  ·rcases hH with k | k
   ·exact .inl k
   ·exact .inr fun g hg => by rw [e] at hg; cases hg; exact k⟩
theorem Chg.setT {t i : Nat} {v v' : Value} {a b : World} (h : Chg t v v' a b) (u : Value) : Chg t v v' a (b.setCell ⟨t, i, none⟩ u) :=
 h.trans ⟨rfl, rfl, rfl, by simp [World.setCell], fun k _ hk _ => by simp [World.setCell, Array.getElem?_modify, Ne.symm hk], .inl rfl⟩
theorem Chg.setO {t i g : Nat} {v v' : Value} {a b : World} (h : Chg t v v' a b) (hg : v'.ownBlock = some g) (u : Value) : Chg t v v' a (b.setCell ⟨g, i, none⟩ u) :=
 h.trans ⟨rfl, rfl, rfl, by simp [World.setCell], fun k _ _ hk => by
  have : g ≠ k := fun e => hk (by rw [hg, e])
  simp [World.setCell, Array.getElem?_modify, this], .inl rfl⟩
theorem AcAt.setO {w : World} {t g i : Nat} {r : RY} {f : RF} {va vr : Value} (h : AcAt w t r f va vr) (hg : g ≠ t) (u : Value) : AcAt (w.setCell ⟨g, i, none⟩ u) t r f va vr :=
 h.same (by simp [World.setCell, Array.getElem?_modify, hg])
theorem shift_row (A D : List Rsn) (z : Rsn) : ∃ h, (A ++ D ++ [z]).take (A.length + 1) ++ ((A ++ D ++ [z]).drop A.length).take D.length = A ++ h :: D := by
 cases D with
 | nil => exact ⟨z, by simp [List.take_of_length_le]⟩
 | cons d D => exact ⟨d, by simp [List.take_append, List.take_of_length_le]⟩
theorem OwnR.set3 {w : World} {B g n c : Nat} {A D : List Rsn} {y : Rsn} (h : OwnR SRn w 70 B (.slice (some ⟨g, 0, none⟩) n c) (A ++ y :: D)) (x : Rsn) :
  OwnR SRn (((w.setCell ⟨g, A.length * 3, none⟩ (I O x.line)).setCell ⟨g, A.length * 3 + 1, none⟩ (I O x.scheme)).setCell ⟨g, A.length * 3 + 2, none⟩ (I O x.kind)) 70 B (.slice (some ⟨g, 0, none⟩) n c) (A ++ x :: D) := by
 have step : ∀ (w : World) (y z : Rsn) (i : Nat) (u : Value), i < 3 → rCells z = (rCells y).set i u → OwnR SRn w 70 B (.slice (some ⟨g, 0, none⟩) n c) (A ++ y :: D) → OwnR SRn (w.setCell ⟨g, A.length * 3 + i, none⟩ u) 70 B (.slice (some ⟨g, 0, none⟩) n c) (A ++ z :: D) := by
  intro w y z i u hi hz h; obtain ⟨g', e, _, _, _, _, _, hs⟩ := h.at (k := A.length) (by simp)
  cases e
  have key := hs i u z hi (by
   have : (A ++ y :: D)[A.length]'(by simp) = y := by simp
   rw [this]; exact hz)
  rw [show (A ++ y :: D).set A.length z = A ++ z :: D from by simp] at key; exact key
 have h1 := step w y ⟨x.line, y.scheme, y.kind⟩ 0 (I O x.line) (by decide) rfl h; have h2 := step _ ⟨x.line, y.scheme, y.kind⟩ ⟨x.line, x.scheme, y.kind⟩ 1 (I O x.scheme) (by decide) rfl h1; have h3 := step _ ⟨x.line, x.scheme, y.kind⟩ x 2 (I O x.kind) (by decide) rfl h2; exact h3
theorem reason34_any (t : Nat) (r : RY) (f : RF) (va vr : Value) (A D : List Rsn) (x : Rsn) (w : World) (hA : AcAt w t r f va vr) (hR : OwnR SRn w 70 (t + 1) vr (A ++ D)) (hlen : A.length + D.length < 1000) (h1 : ∀ y ∈ A, y.line ≤ x.line) (h2 : ∀ y ∈ D, x.line < y.line) :
  Calls Tryz.prog 153 #[.pointer (some ⟨t, 0, none⟩), .agg (rCells x).toArray] w (RsG t r f va vr (A ++ x :: D) w) := by
 have htl := hA.lt; have hov : ∀ k, vr.ownBlock = some k → t + 1 ≤ k ∧ k < w.heap.size := fun k hk => hR.lt hk
 obtain ⟨n1, hn1⟩ : ∃ n, A.length = n := ⟨_, rfl⟩; obtain ⟨N, hN⟩ : ∃ N, A.length + D.length = N := ⟨_, rfl⟩; have hln : (A ++ D).length = N := by rw [lap]; exact hN
 obtain ⟨p, c, rfl, hp0, hpx, hnc, hcm, -⟩ := hR.cut hln; have HA := mh ((brf w.heap.size w).alloc mle (.cells #[I O x.line, I O x.scheme, I O x.kind] 70)); obtain ⟨w1, ew1⟩ : ∃ W, w.alloc (.cells #[I O x.line, I O x.scheme, I O x.kind] 70) = W := ⟨_, rfl⟩; have hb1 : Below w.heap.size w w1 := ew1 ▸ HA.out; have hs1 : w1.heap.size = w.heap.size + 1 := by rw [← ew1]; simp
 have hx1 : w1.heap[w.heap.size]? = some (.cells #[I O x.line, I O x.scheme, I O x.kind] 70) := by rw [← ew1]; exact Array.getElem?_push_size
 have HX1 := mh hx1; have HB1 := mh hb1; have HS1 := mh hs1; have HO := mh hov; have HA1 := mh (hA.below hb1 htl); have HR1 := mh (hR.below hb1); have HPX := mh hpx; have EW := mh ew1; have hN1 : N < 1000 := by omega
 have hn1N : n1 ≤ N := by omega
 clear hb1 hs1 hx1 hA hR hov hpx hp0 HA hcm ew1; simp only [rCells]; have k14 : (w.alloc (.cells #[I O x.line, I O x.scheme, I O x.kind] 70)).cell? ⟨t, 14, none⟩ = some (.slice p N c) := by rw [EW.out]; exact HA1.out.cell 14 _ rfl
 go_enter Tryz.func153, Tryz.ntmps153
 go_wp2
 rw [EW.out]; clear k14 EW
 go_loopw [4] (fun i wr => ∃ j : Nat, n1 ≤ j ∧ j ≤ N ∧ i = I O j ∧ Below w1.heap.size w1 wr) (fun i _ => (intOf i).toNat)
 case atStart => exact ⟨N, hn1N, Nat.le_refl _, rfl, brf _ _⟩
 case round =>
  obtain ⟨j, hj1, hjN, rfl, hb⟩ := hrel; have hj0 : (0 : Int) ≤ (j : Int) := inn _; have a14 := (HA1.out.below hb (by rw [HS1.out]; omega)).cell 14 _ rfl; have b0 : wr.cell? ⟨w.heap.size, 0, none⟩ = some (I O x.line) := (hb.cell (p := ⟨w.heap.size, 0, none⟩) (by rw [HS1.out]; exact Nat.lt_succ_self _)).trans (by simp [World.cell?, HX1.out])
  rcases Nat.eq_zero_or_pos j with hz | hpos
  ·have fz : decide (0 < j) = false := dqf (by omega)
   have hjn : (j : Int) = (n1 : Int) := by omega
   rw [hjn]; have fz2 : decide (0 < n1) = false := dqf (by omega); clear hz fz hj1 hjN
   go_wp2_with fail
   refine wp_region_quiet_lit (by kernel_rfl) (by kernel_rfl) ?_
   try simp only [List.append_eq, List.cons_append, List.nil_append]
   repeat (go_big_quiet_step (fail))
   refine wpQuiet_nil ?_
   intro _ hwq; obtain ⟨nq, hwr⟩ := hwq; subst hwr; obtain ⟨wq, ewq⟩ : ∃ W, wr.drewN nq = W := ⟨_, rfl⟩; rw [ewq]; have HBQ := mh (show Below w1.heap.size w1 wq from ewq ▸ bnext hb hb.size (drewN_below _ _)); clear ewq hb a14 b0; have HAQ := mh (HA1.out.below HBQ.out (by rw [HS1.out]; omega)); have HRQ := mh (HR1.out.below HBQ.out); have HTQ := mh (show t + 1 ≤ wq.heap.size from Nat.le_trans (show t + 1 ≤ w1.heap.size by rw [HS1.out]; omega) HBQ.out.size); have q14 := HAQ.out.cell 14 _ rfl
   go_wp2_with (first | (at_builtin; (refine OwnR.append el_rsn rfl (.tmp 32) (.tmp 34) rfl (t + 1) _ (A ++ D) ⟨0, 0, 0⟩ #[I O 0, I O 0, I O 0] rfl HRQ.out rfl rfl HTQ.out (by rw [hln]; omega) (by decide) ?_); intro v5 w5 hO5 hap5; obtain ⟨p5, c5, rfl, -, -, hnc5, -, -⟩ := hO5.cut (n := N + 1) (by rw [lap, hln]; rfl); obtain ⟨g5, e5, -, hBg, hlg, -, -, -⟩ := hO5.at (k := 0) (by rw [lap]; exact Nat.succ_pos _); cases e5; have A5 := HAQ.out.below hap5.below (Nat.lt_succ_self t); have r14 := A5.cell 14 _ rfl; have f14 := A5.frozen 14; have HA5 := mh A5; have HO5 := mh hO5; have HP5 := mh hap5; have HG5 := mh (And.intro hBg hlg); clear A5 hO5 hap5 hBg hlg) | fail)
   obtain ⟨w6, ew6⟩ : ∃ W, w5.setCell ⟨t, 14, none⟩ (.slice (some ⟨g5, 0, none⟩) (N + 1) c5) = W := ⟨_, rfl⟩; rw [ew6]; have HA6 := mh (show AcAt w6 t r f va _ from ew6 ▸ HA5.out.setR (.slice (some ⟨g5, 0, none⟩) (N + 1) c5)); have HO6 := mh (show OwnR SRn w6 70 (t + 1) (.slice (some ⟨g5, 0, none⟩) (N + 1) c5) (A ++ D ++ [⟨0, 0, 0⟩]) from ew6 ▸ OwnR.setOther HO5.out (by show some g5 ≠ some t; intro e; cases e; have := HG5.out.1; omega) _); have HC6 := mh (show Chg t (.slice p N c) (.slice (some ⟨g5, 0, none⟩) (N + 1) c5) w w6 from ew6 ▸ (((Chg.of_below (HB1.out.trans (HBQ.out.mono (by rw [HS1.out]; omega)))).trans (Chg.of_app HP5.out (.inr (by omega)))).setT _))
   have HX6 := mh (show w6.heap[w.heap.size]? = some (.cells #[I O x.line, I O x.scheme, I O x.kind] 70) from by
    rw [← ew6]; have e1 : w5.heap[w.heap.size]? = some (.cells #[I O x.line, I O x.scheme, I O x.kind] 70) := by
     rw [HP5.out.far _ (nll (show w.heap.size < w1.heap.size by rw [HS1.out]; omega) HBQ.out.size) (fun e => by have := (HO.out _ e).2; omega), HBQ.out.block _ (by rw [HS1.out]; omega)]; exact HX1.out
    rw [← e1]; have : t ≠ w.heap.size := by omega
    simp [World.setCell, Array.getElem?_modify, this])
   have HL6 := mh (show g5 < w6.heap.size from by rw [← ew6]; simp [World.setCell]; exact HG5.out.2); clear ew6 r14 f14 q14; have s14 := HA6.out.cell 14 _ rfl; obtain ⟨q1, d1, Q1, R1⟩ := run_rsn_from g5 (N + 1) c5 (n1 + 1) (by omega) hnc5; obtain ⟨q2, d2, Q2, R2⟩ := run_rsn_from g5 (N + 1) c5 n1 (by omega) hnc5; have hm1 : N + 1 - (n1 + 1) = D.length := by omega
   have hm2 : N + 1 - n1 = D.length + 1 := by omega
   rw [hm1] at Q1 R1; rw [hm2] at R2 Q2; have hcn : ((n1 + 1 : Nat) : Int) = (n1 : Int) + 1 := by push_cast; rfl
   rw [hcn] at R1; have HQ1 := mh Q1; have HQ2 := mh (fun (h : 0 < D.length) => Q2 (by omega)); clear Q1 Q2 hm1 hm2 hcn; have hw1 : IntKind.i64.wrap ((n1 : Int) + 1) = (n1 : Int) + 1 := by rw [IntKind.wrap_i64]; omega
   go_region_law ((refine OwnR.stepShift el_rsn (by rfl) (.tmp 44) (.tmp 50) (by rfl) (t + 1) (.slice (some ⟨g5, 0, none⟩) (N + 1) c5) (A ++ D ++ [⟨0, 0, 0⟩]) n1 D.length HO6.out.drew (by rw [lap, hln]; simp; omega) g5 rfl q1 q2 d1 d2 (by rfl) (by rfl) HQ1.out HQ2.out ?_; intro w7 hO7 hap7; have HO7 := mh hO7; have HP7 := mh hap7; have t14 := (HA6.out.same (w' := w7) (hap7.below.block t (Nat.lt_succ_self t))).cell 14 _ rfl; clear hO7 hap7))
   all_goals
    obtain ⟨h0, eh⟩ := shift_row A D ⟨0, 0, 0⟩
    have HO8 := mh (show OwnR SRn w7 70 (t + 1) (.slice (some ⟨g5, 0, none⟩) (N + 1) c5) (A ++ h0 :: D) from by
     have := HO7.out; rw [← hn1, eh] at this
     exact this)
    have NG := mh (show g5 ≠ w.heap.size from by
     intro e
     rcases HP5.out.block with k | k
     ·have := (HO.out g5 (by rw [← k]; rfl)).2
      omega
     ·have k : some g5 = some (wq.heap.size + 1) := k
      cases k
      have := HBQ.out.size; have := HS1.out
      omega)
    have hx7 : w7.heap[w.heap.size]? = some (.cells #[I O x.line, I O x.scheme, I O x.kind] 70) := by
     rw [HP7.out.far _ (by have := HX6.out; exact (Array.getElem?_eq_some_iff.1 this).1) (fun e => NG.out (by cases e; rfl))]; exact HX6.out
    have y0 : w7.cell? ⟨w.heap.size, 0, none⟩ = some (I O x.line) := by simp [World.cell?, hx7]
    have y1 : w7.cell? ⟨w.heap.size, 1, none⟩ = some (I O x.scheme) := by simp [World.cell?, hx7]
    have y2 : w7.cell? ⟨w.heap.size, 2, none⟩ = some (I O x.kind) := by simp [World.cell?, hx7]
    obtain ⟨g', e', -, -, hlg7, hc7, hf7, -⟩ := HO8.out.at (k := n1) (by rw [lap, List.length_cons]; omega)
    cases e'
    have eat : (A ++ h0 :: D)[n1]'(by rw [lap, List.length_cons]; omega) = h0 := by subst hn1; simp
    rw [eat] at hc7; have z0 : w7.cell? ⟨g5, n1 * 3, none⟩ = some (I O h0.line) := hc7 0 _ rfl; have z1 : w7.cell? ⟨g5, n1 * 3 + 1, none⟩ = some (I O h0.scheme) := hc7 1 _ rfl; have z2 : w7.cell? ⟨g5, n1 * 3 + 2, none⟩ = some (I O h0.kind) := hc7 2 _ rfl; have v0 := hf7 (n1 * 3); have v1 := hf7 (n1 * 3 + 1); have v2 := hf7 (n1 * 3 + 2); have hn10 : (0 : Int) ≤ (n1 : Int) := inn _; have hn11 : (n1 : Int) < (N : Int) + 1 := by omega
    clear eat hc7 hf7 hx7 eh R1 R2 hw1 s14
    go_wp2
    go_region
    go_wp2
    refine bodyPost_end (v := .tuple #[]) (by simp [results, Tryz.results153, go_sem]) rfl ⟨rfl, .slice (some ⟨g5, 0, none⟩) (N + 1) c5, ?_, ?_, ?_⟩
    ·have e : g5 ≠ t := by have := HG5.out.1; omega
     exact (((((HA6.out.same (w' := w6.drew) rfl).below HP7.out.below (Nat.lt_succ_self t)).setO e _).setO e _).setO e _).same rfl
    ·have := HO8.out.set3 x
     rw [hn1] at this; exact this.drew
    ·exact (((((HC6.out.stp (brf _ _).drew).trans (Chg.of_app HP7.out (.inl rfl))).setO rfl _).setO rfl _).setO rfl _).stp (brf _ _).drew
  ·obtain ⟨m, hm⟩ : ∃ m, j = m + 1 := ⟨j - 1, by omega⟩
   have hm0 : (0 : Int) ≤ (m : Int) := inn _; have hmN : (m : Int) < (N : Int) := by omega
   have hkm : IntKind.i64.wrap ((j : Int) - 1) = (m : Int) := by rw [IntKind.wrap_i64]; omega
   have hml : m < (A ++ D).length := by rw [hln]; omega
   obtain ⟨g, e, -, -, -, hc, -, -⟩ := (HR1.out.below hb).at hml
   cases e
   obtain ⟨y, ey⟩ : ∃ y, (A ++ D)[m] = y := ⟨_, rfl⟩; rw [ey] at hc; have c0 : wr.cell? ⟨g, m * 3, none⟩ = some (I O y.line) := hc 0 _ rfl; have fz : decide (0 < j) = true := dqt hpos; have HPB := mh (bnext hb hb.size (drewN_below wr 1)); have HB := mh hb
   by_cases hjn : n1 < j
   ·have hy : decide (x.line < y.line) = true := dqt (h2 y (by
     rw [← ey, List.getElem_append_right (by omega)]
     exact List.getElem_mem _))
    have HM := mh hm; have HJ := mh hjn; have HN2 := mh hjN; clear hc ey hpos hjn hj1 hm hb hjN h1 h2
    go_wp2_with fail
    refine wp_region_quiet_lit (by kernel_rfl) (by kernel_rfl) ?_
    try simp only [List.append_eq, List.cons_append, List.nil_append]
    repeat (go_big_quiet_step (fail))
    refine wpQuiet_nil ?_
    intro _ hwq; obtain ⟨nq, hwr⟩ := hwq; subst hwr
    go_wp2
    go_roundw
    case rel => exact ⟨m, by have := HM.out; have := HJ.out; omega, by have := HM.out; have := HN2.out; omega, rfl, bnext HB.out HB.out.size (drewN_below _ _)⟩
    case measure => have := HM.out; simp [intOf]; omega
   ·have hjn' : j = n1 := by omega
    have hy : decide (x.line < y.line) = false := dqf (by
     have := h1 y (by
      rw [← ey, List.getElem_append_left (by omega)]
      exact List.getElem_mem _)
     omega)
    subst hjn'; clear hc ey hpos hjn hj1 hm hjN HPB HB
    go_wp2_with fail
    refine wp_region_quiet_lit (by kernel_rfl) (by kernel_rfl) ?_
    try simp only [List.append_eq, List.cons_append, List.nil_append]
    repeat (go_big_quiet_step (fail))
    refine wpQuiet_nil ?_
    intro _ hwq; obtain ⟨nq, hwr⟩ := hwq; subst hwr; obtain ⟨wq, ewq⟩ : ∃ W, wr.drewN nq = W := ⟨_, rfl⟩; rw [ewq]; have HBQ := mh (show Below w1.heap.size w1 wq from ewq ▸ bnext hb hb.size (drewN_below _ _)); clear ewq hb a14 b0; have HAQ := mh (HA1.out.below HBQ.out (by rw [HS1.out]; omega)); have HRQ := mh (HR1.out.below HBQ.out); have HTQ := mh (show t + 1 ≤ wq.heap.size from Nat.le_trans (show t + 1 ≤ w1.heap.size by rw [HS1.out]; omega) HBQ.out.size); have q14 := HAQ.out.cell 14 _ rfl
    go_wp2_with (first | (at_builtin; (refine OwnR.append el_rsn rfl (.tmp 32) (.tmp 34) rfl (t + 1) _ (A ++ D) ⟨0, 0, 0⟩ #[I O 0, I O 0, I O 0] rfl HRQ.out rfl rfl HTQ.out (by rw [hln]; omega) (by decide) ?_); intro v5 w5 hO5 hap5; obtain ⟨p5, c5, rfl, -, -, hnc5, -, -⟩ := hO5.cut (n := N + 1) (by rw [lap, hln]; rfl); obtain ⟨g5, e5, -, hBg, hlg, -, -, -⟩ := hO5.at (k := 0) (by rw [lap]; exact Nat.succ_pos _); cases e5; have A5 := HAQ.out.below hap5.below (Nat.lt_succ_self t); have r14 := A5.cell 14 _ rfl; have f14 := A5.frozen 14; have HA5 := mh A5; have HO5 := mh hO5; have HP5 := mh hap5; have HG5 := mh (And.intro hBg hlg); clear A5 hO5 hap5 hBg hlg) | fail)
    obtain ⟨w6, ew6⟩ : ∃ W, w5.setCell ⟨t, 14, none⟩ (.slice (some ⟨g5, 0, none⟩) (N + 1) c5) = W := ⟨_, rfl⟩; rw [ew6]; have HA6 := mh (show AcAt w6 t r f va _ from ew6 ▸ HA5.out.setR (.slice (some ⟨g5, 0, none⟩) (N + 1) c5)); have HO6 := mh (show OwnR SRn w6 70 (t + 1) (.slice (some ⟨g5, 0, none⟩) (N + 1) c5) (A ++ D ++ [⟨0, 0, 0⟩]) from ew6 ▸ OwnR.setOther HO5.out (by show some g5 ≠ some t; intro e; cases e; have := HG5.out.1; omega) _); have HC6 := mh (show Chg t (.slice (some ⟨g, 0, none⟩) N c) (.slice (some ⟨g5, 0, none⟩) (N + 1) c5) w w6 from ew6 ▸ (((Chg.of_below (HB1.out.trans (HBQ.out.mono (by rw [HS1.out]; omega)))).trans (Chg.of_app HP5.out (.inr (by omega)))).setT _))
    have HX6 := mh (show w6.heap[w.heap.size]? = some (.cells #[I O x.line, I O x.scheme, I O x.kind] 70) from by
     rw [← ew6]; have e1 : w5.heap[w.heap.size]? = some (.cells #[I O x.line, I O x.scheme, I O x.kind] 70) := by
      rw [HP5.out.far _ (nll (show w.heap.size < w1.heap.size by rw [HS1.out]; omega) HBQ.out.size) (fun e => by have := (HO.out _ e).2; omega), HBQ.out.block _ (by rw [HS1.out]; omega)]; exact HX1.out
     rw [← e1]; have : t ≠ w.heap.size := by omega
     simp [World.setCell, Array.getElem?_modify, this])
    have HL6 := mh (show g5 < w6.heap.size from by rw [← ew6]; simp [World.setCell]; exact HG5.out.2); clear ew6 r14 f14 q14; have s14 := HA6.out.cell 14 _ rfl; obtain ⟨q1, d1, Q1, R1⟩ := run_rsn_from g5 (N + 1) c5 (j + 1) (by omega) hnc5; obtain ⟨q2, d2, Q2, R2⟩ := run_rsn_from g5 (N + 1) c5 j (by omega) hnc5; have hm1 : N + 1 - (j + 1) = D.length := by omega
    have hm2 : N + 1 - j = D.length + 1 := by omega
    rw [hm1] at Q1 R1; rw [hm2] at R2 Q2; have hcn : ((j + 1 : Nat) : Int) = (j : Int) + 1 := by push_cast; rfl
    rw [hcn] at R1; have HQ1 := mh Q1; have HQ2 := mh (fun (h : 0 < D.length) => Q2 (by omega)); clear Q1 Q2 hm1 hm2 hcn; have hw1 : IntKind.i64.wrap ((j : Int) + 1) = (j : Int) + 1 := by rw [IntKind.wrap_i64]; omega
    go_region_law ((refine OwnR.stepShift el_rsn (by rfl) (.tmp 44) (.tmp 50) (by rfl) (t + 1) (.slice (some ⟨g5, 0, none⟩) (N + 1) c5) (A ++ D ++ [⟨0, 0, 0⟩]) j D.length HO6.out.drew (by rw [lap, hln]; simp; omega) g5 rfl q1 q2 d1 d2 (by rfl) (by rfl) HQ1.out HQ2.out ?_; intro w7 hO7 hap7; have HO7 := mh hO7; have HP7 := mh hap7; have t14 := (HA6.out.same (w' := w7) (hap7.below.block t (Nat.lt_succ_self t))).cell 14 _ rfl; clear hO7 hap7))
    all_goals
     obtain ⟨h0, eh⟩ := shift_row A D ⟨0, 0, 0⟩
     have HO8 := mh (show OwnR SRn w7 70 (t + 1) (.slice (some ⟨g5, 0, none⟩) (N + 1) c5) (A ++ h0 :: D) from by
      have := HO7.out; rw [← hn1, eh] at this
      exact this)
     have NG := mh (show g5 ≠ w.heap.size from by
      intro e
      rcases HP5.out.block with k | k
      ·have := (HO.out g5 (by rw [← k]; rfl)).2
       omega
      ·have k : some g5 = some (wq.heap.size + 1) := k
       cases k
       have := HBQ.out.size; have := HS1.out
       omega)
     have hx7 : w7.heap[w.heap.size]? = some (.cells #[I O x.line, I O x.scheme, I O x.kind] 70) := by
      rw [HP7.out.far _ (by have := HX6.out; exact (Array.getElem?_eq_some_iff.1 this).1) (fun e => NG.out (by cases e; rfl))]; exact HX6.out
     have y0 : w7.cell? ⟨w.heap.size, 0, none⟩ = some (I O x.line) := by simp [World.cell?, hx7]
     have y1 : w7.cell? ⟨w.heap.size, 1, none⟩ = some (I O x.scheme) := by simp [World.cell?, hx7]
     have y2 : w7.cell? ⟨w.heap.size, 2, none⟩ = some (I O x.kind) := by simp [World.cell?, hx7]
     obtain ⟨g', e', -, -, hlg7, hc7, hf7, -⟩ := HO8.out.at (k := j) (by rw [lap, List.length_cons]; omega)
     cases e'
     have eat : (A ++ h0 :: D)[j]'(by rw [lap, List.length_cons]; omega) = h0 := by subst hn1; simp
     rw [eat] at hc7; have z0 : w7.cell? ⟨g5, j * 3, none⟩ = some (I O h0.line) := hc7 0 _ rfl; have z1 : w7.cell? ⟨g5, j * 3 + 1, none⟩ = some (I O h0.scheme) := hc7 1 _ rfl; have z2 : w7.cell? ⟨g5, j * 3 + 2, none⟩ = some (I O h0.kind) := hc7 2 _ rfl; have v0 := hf7 (j * 3); have v1 := hf7 (j * 3 + 1); have v2 := hf7 (j * 3 + 2); have hn10 : (0 : Int) ≤ (j : Int) := inn _; have hn11 : (j : Int) < (N : Int) + 1 := by omega
     clear eat hc7 hf7 hx7 eh R1 R2 hw1 s14
     go_wp2
     go_region
     go_wp2
     refine bodyPost_end (v := .tuple #[]) (by simp [results, Tryz.results153, go_sem]) rfl ⟨rfl, .slice (some ⟨g5, 0, none⟩) (N + 1) c5, ?_, ?_, ?_⟩
     ·have e : g5 ≠ t := by have := HG5.out.1; omega
      exact (((((HA6.out.same (w' := w6.drew) rfl).below HP7.out.below (Nat.lt_succ_self t)).setO e _).setO e _).setO e _).same rfl
     ·have := HO8.out.set3 x
      rw [hn1] at this; exact this.drew
     ·exact (((((HC6.out.stp (brf _ _).drew).trans (Chg.of_app HP7.out (.inl rfl))).setO rfl _).setO rfl _).setO rfl _).stp (brf _ _).drew
structure Cnt (w wr : World) (B : Nat) (e u : Int) (l : List Int) (v : Value) : Prop where
 below : Below B w wr
 own : Own wr 3 (B + 1 + 1) v (En.units u l)
 a0 : wr.cell? ⟨B, 0, none⟩ = some (I O 0)
 a1 : wr.cell? ⟨B, 1, none⟩ = some (.slice none 0 0)
 a2 : wr.cell? ⟨B, 2, none⟩ = some (I O 0)
 af0 : wr.frozen? ⟨B, 0, none⟩ = false
 af1 : wr.frozen? ⟨B, 1, none⟩ = false
 af2 : wr.frozen? ⟨B, 2, none⟩ = false
 b0 : wr.cell? ⟨B + 1, 0, none⟩ = some (I O (e / u))
 b1 : wr.cell? ⟨B + 1, 1, none⟩ = some v
 b2 : wr.cell? ⟨B + 1, 2, none⟩ = some (I O (En.usum u l))
 bf1 : wr.frozen? ⟨B + 1, 1, none⟩ = false
 bf2 : wr.frozen? ⟨B + 1, 2, none⟩ = false
 lt : B + 1 < wr.heap.size
theorem Own.ints_at {w : World} {T : TypeId} {B : Nat} {p : Option Addr} {n c : Nat} {xs : List Int} (h : Own w T B (.slice p n c) xs) : Ints w p xs := by
 obtain ⟨p', c', e, hI⟩ := h.ints
 cases e
 exact hI
theorem Cnt.step {w wr w1 : World} {B : Nat} {e u x : Int} {l : List Int} {v v1 : Value} {o : Obj} (h : Cnt w wr B e u l v) (hb : Below (B + 1 + 1) (((wr.setCell ⟨B + 1, 2, none⟩ (I O (En.usum u l + x / u))).alloc o).drew.drew) w1)
  (hown : Own w1 3 (B + 1 + 1) v1 (En.units u l ++ [x / u])) : Cnt w (w1.setCell ⟨B + 1, 1, none⟩ v1) B e u (l ++ [x]) v1 := by
 have lt := h.lt; have k1 := h.b1; have k2 := h.b2; have cB : ∀ i, w1.cell? ⟨B, i, none⟩ = wr.cell? ⟨B, i, none⟩ := fun i => (hb.cell (p := ⟨B, i, none⟩) (by simp; omega)).trans (((brf wr.heap.size _).alloc (by simp) o).cell (p := ⟨B, i, none⟩) (by simp; omega) |>.trans (by go_simp))
 have fB : ∀ i, w1.frozen? ⟨B, i, none⟩ = wr.frozen? ⟨B, i, none⟩ := fun i => (hb.frozen (p := ⟨B, i, none⟩) (by simp; omega)).trans (((brf wr.heap.size _).alloc (by simp) o).frozen (p := ⟨B, i, none⟩) (by simp; omega) |>.trans (by go_simp))
 have c0 : w1.cell? ⟨B + 1, 0, none⟩ = wr.cell? ⟨B + 1, 0, none⟩ := (hb.cell (p := ⟨B + 1, 0, none⟩) (by simp)).trans (((brf wr.heap.size _).alloc (by simp) o).cell (p := ⟨B + 1, 0, none⟩) (by simp; omega) |>.trans (by go_simp)); have c1 : w1.cell? ⟨B + 1, 1, none⟩ = wr.cell? ⟨B + 1, 1, none⟩ := (hb.cell (p := ⟨B + 1, 1, none⟩) (by simp)).trans (((brf wr.heap.size _).alloc (by simp) o).cell (p := ⟨B + 1, 1, none⟩) (by simp; omega) |>.trans (by go_simp)); have c2 : w1.cell? ⟨B + 1, 2, none⟩ = some (I O (En.usum u l + x / u)) := (hb.cell (p := ⟨B + 1, 2, none⟩) (by simp)).trans (((brf wr.heap.size _).alloc (by simp) o).cell (p := ⟨B + 1, 2, none⟩) (by simp; omega) |>.trans (by go_simp)); have f1 : ∀ i, w1.frozen? ⟨B + 1, i, none⟩ = wr.frozen? ⟨B + 1, i, none⟩ := fun i => (hb.frozen (p := ⟨B + 1, i, none⟩) (by simp)).trans (((brf wr.heap.size _).alloc (by simp) o).frozen (p := ⟨B + 1, i, none⟩) (by simp; omega) |>.trans (by go_simp))
 have hsz := hb.size; simp only [World.size_drew, World.size_alloc, World.size_setCell] at hsz; refine ⟨?_, ?_, ?_, ?_, ?_, ?_, ?_, ?_, ?_, ?_, ?_, ?_, ?_, ?_⟩
 ·exact ((((h.below.setCell (p := ⟨B + 1, 2, none⟩) (by simp) _).alloc (by simp; omega) o).drew.drew).trans (hb.mono (by omega))).setCell (by simp) _
 ·have := ownsRow_setCell_below hown (a := ⟨B + 1, 1, none⟩) (by simp) v1
  rw [En.units_snoc]; exact this
 ·first | (go_simp; done) | (go_simp; exact h.a0)
 ·first | (go_simp; done) | (go_simp; exact h.a1)
 ·first | (go_simp; done) | (go_simp; exact h.a2)
 ·first | (go_simp; done) | (go_simp; exact h.af0)
 ·first | (go_simp; done) | (go_simp; exact h.af1)
 ·first | (go_simp; done) | (go_simp; exact h.af2)
 ·first | (go_simp; done) | (go_simp; exact h.b0)
 ·have e1 := c1.trans k1
  go_simp
 ·rw [En.usum_snoc]
  first | (go_simp; done) | (go_simp; exact c2)
 ·first | (go_simp; done) | (go_simp; exact h.bf1)
 ·first | (go_simp; done) | (go_simp; exact h.bf2)
 ·simp; omega
theorem Own.step {P : Program} {T TS : TypeId} {i0 : TypeInfo} (hi : P.info? T = some i0) (hz0 : i0.zero = some (I O 0)) (hz1 : i0.size = 1) (hz2 : i0.bytes = 8) (ht : P.underlying TS = some (.slice T)) {w : World} {ops : Array Oper} {o : Oper} {a : Act} {K : Act → World → Prop} {Q : Exit → Act → World → Prop} {E : Prop} (hgd : o.guard = none) (s x : Operand)
  (ho : o.op = .call { callee := .builtin .append, args := #[s, x], argTypes := #[TS, TS] }) (B : Nat) (v : Value) (xs : List Int) (y : Int) (g : Nat) (hown : Own w T B v xs) (hs : a.eval s = v)
  (hx : a.eval x = .slice (some ⟨g, 0, none⟩) 1 1) (hc : w.cell? ⟨g, 0, none⟩ = some (I O y)) (hB : B ≤ w.heap.size) (hn : xs.length < 1099511627776)
  (h : ∀ v' w', Own w' T B v' (xs ++ [y]) → Below B w w' → K (a.put o.dst v') w') :
  if Region.wanted o (yielded ops a.tmps) = true then Oper.wp P o a w K Q else E := by
 refine step_append_lies _ hgd s x TS ho B T i0 (I O 0) 1 8 ht hi hz0 hz1 hz2 rfl (by decide) v xs.length (xs.map (Value.int .i64)) hs hown ⟨g, 0, none⟩ 1 1 [I O y] hx rfl (fun j u hu => ?_) (by simp [Value.oneCell']) (by omega) (by unfold maxLen; omega) (by omega) hB _ rfl ?_
 ·match j, hu with
  | 0, hu => simp at hu; subst hu; exact hc
 intro g cap w' h1 h2 _ _; refine h _ w' ?_ ?_
 ·unfold Own
  rw [lap, List.map_append]; exact h1
 ·refine ((brf B w).grown h2 hB fun k hk => ?_)
  exact (World.ownsRow.lt hown k hk).1
theorem count_good (e u : Int) (p : Option Addr) (l : List Int) (cap : Nat) (w : World) (h : Ints w p l) (hg : En.Good e u l) :
  Calls Tryz.prog 105 #[I O e, I O u, .slice p l.length cap] w fun en w' => ∃ q c, en = .returned (.tuple #[.agg #[I O (e / u), .slice q l.length c, I O (En.usum u l)], I O 0]) ∧ Ints w' q (En.units u l) ∧ Below w.heap.size w w' := by
 have H := mh h; have G := mh hg; have e0 := hg.e0; have e1 := hg.e1; have u0 := hg.u0; have u1 := hg.u1; have hl := hg.len; have q0 : 0 ≤ e / u := Int.ediv_nonneg e0 (by omega); have q1 : e / u ≤ 68719476736 := by have := Int.ediv_le_self u e0; omega
 have hu0 : ¬ u = 0 := by omega
 clear h hg
 go_enter Tryz.func105, Tryz.ntmps105
 go_wp2
 have hst : Cnt w ((w.alloc (Obj.cells #[I O 0, .slice none 0 0, I O 0] 164)).alloc (Obj.cells #[I O (e / u), .slice none 0 0, I O 0] 164)) w.heap.size e u [] (.slice none 0 0) :=
  ⟨by go_grown, Own.nil _ _ _, by go_simp, by go_simp, by go_simp, by go_simp, by go_simp, by go_simp, by go_simp, by go_simp, (by show _ = some (Value.int .i64 0); go_simp), by go_simp, by go_simp, by simp⟩
 have HST := mh hst; clear hst; obtain ⟨i0, hi, hz0, hz1, hz2⟩ := info_parts info_int; have HI := mh (And.intro hi (And.intro hz0 (And.intro hz1 hz2))); clear hi hz0 hz1 hz2
 go_loopw [39, 9] (fun i s wr => ∃ (k : Nat) (v : Value), k ≤ l.length ∧ i = I O k ∧ s = I O (Sh.sum (l.take k)) ∧ Cnt w wr w.heap.size e u (l.take k) v) (fun i _ _ => l.length - (intOf i).toNat)
 case atStart => exact ⟨0, _, Nat.zero_le _, rfl, by simp [Sh.sum], HST.out⟩
 case round =>
  clear HST; obtain ⟨k, v, hk, rfl, rfl, hC⟩ := hrel; have HC := mh hC; have hs0 := G.out.sum k; have hus := G.out.usum k
  by_cases hlt : k < l.length
  ·obtain ⟨b, off, x, rfl, hbl, hcell0, hx⟩ := H.out.get hlt
   have hcell : wr.cell? ⟨b, off + k, none⟩ = some (I O x) := (hC.below.cell (p := ⟨b, off + k, none⟩) hbl).trans hcell0; have hs1 := G.out.sum (k + 1); have hus1 := G.out.usum (k + 1); have hst := mh (En.take_snoc hlt); rw [hst.out, hx.out, Sh.sum_snoc] at hs1; rw [hst.out, hx.out, En.usum_snoc] at hus1; have hxb : 0 ≤ x ∧ x ≤ 68719476736 := by
    rw [← hx.out, List.getD_eq_getElem?_getD, List.getElem?_eq_getElem hlt]; exact G.out.all _ (List.getElem_mem hlt)
   have c1 := hC.b1; have c2 := hC.b2; have c3 := hC.bf1; have c4 := hC.bf2; clear hC hcell0; have x0 : 0 ≤ x / u := Int.ediv_nonneg hxb.1 (by omega); have x1 : x / u ≤ 68719476736 := by have := Int.ediv_le_self u hxb.1; omega
   go_wp2_with fail
   go_region
   go_wp2_with fail
   have hdq : IntKind.i64.wrap (x.tdiv u) = x / u := by
    rw [Int.tdiv_eq_ediv_of_nonneg hxb.1]; generalize x / u = y at x0 x1 ⊢; rw [IntKind.wrap_i64]; omega
   have lt0 := HC.out.lt
   go_region_law ((refine Own.step HI.out.1 HI.out.2.1 HI.out.2.2.1 HI.out.2.2.2 Tryz.underlying22 (by rfl) (.tmp 61) (.tmp 65) (by rfl) (w.heap.size + 1 + 1) v (En.units u (l.take k)) (x / u) wr.heap.size (World.ownsRow.drew (World.ownsRow.drew (World.ownsRow.alloc (ownsRow_setCell_below HC.out.own (by simp) _) _))) (by rfl) (by rfl) (by go_simp) (by have := HC.out.lt; simp; omega) (by rw [En.units_len]; simp; omega) ?_; intro v1 w1 hown1 hb1; obtain ⟨p1, cc1, rfl, hI1⟩ := hown1.ints; clear hI1; have k1 := (hb1.cell (p := ⟨w.heap.size + 1, 1, none⟩) (by simp)).trans (show _ = some v by first | (go_simp; done) | (go_simp; exact c1)); have k2 := (hb1.frozen (p := ⟨w.heap.size + 1, 1, none⟩) (by simp)).trans (show _ = false by first | (go_simp; done) | (go_simp; exact c3))))
   all_goals
    have hC2 := HC.out.step hb1 hown1; rw [← hx.out, ← hst.out] at hC2; rw [hx.out] at hC2; have HC2 := mh hC2; clear hC2 hown1 hb1 HC
    go_wp2
    go_roundw
    case rel => exact ⟨k + 1, _, by omega, by go_num, by rw [hst.out, hx.out, Sh.sum_snoc], by simpa using HC2.out⟩
    case measure => simp [intOf]; omega
  ·obtain rfl : k = l.length := by omega
   rw [List.take_length] at hC hs0 hus; have c0 := hC.b0; have c1 := hC.b1; have c2 := hC.b2; have d0 := hC.a0; have d1 := hC.a1; have d2 := hC.a2; have g0 := hC.af0; have g1 := hC.af1; have g2 := hC.af2; have hbel := hC.below; obtain ⟨p1, cc1, rfl, hI1⟩ := hC.own.ints; have HO := mh (ownsRow_setCell_below (ownsRow_setCell_below (ownsRow_setCell_below hC.own (a := ⟨w.heap.size, 0, none⟩) (by simp; omega) (I O (e / u))) (a := ⟨w.heap.size, 1, none⟩) (by simp; omega) (.slice p1 (En.units u l).length cc1)) (a := ⟨w.heap.size, 2, none⟩) (by simp; omega) (I O (En.usum u l))); have HB1 := mh (((hbel.setCell (p := ⟨w.heap.size, 0, none⟩) (by simp) (I O (e / u))).setCell (p := ⟨w.heap.size, 1, none⟩) (by simp) (.slice p1 (En.units u l).length cc1)).setCell (p := ⟨w.heap.size, 2, none⟩) (by simp) (I O (En.usum u l))); clear hI1 hbel hC HC hlt hk
   go_wp2
   refine bodyPost_ret (v := .tuple #[.agg #[I O (e / u), .slice p1 (En.units u l).length cc1, I O (En.usum u l)], I O 0]) ?_ rfl ⟨p1, cc1, by rw [En.units_len], Own.ints_at HO.out, HB1.out⟩
   rw [results_cell_tmp rfl]; go_simp
theorem En.Good.snoc {e u x : Int} {l : List Int} (h : En.Good e u l) (hx : 0 ≤ x ∧ x ≤ 68719476736) (hl : l.length < 64) : En.Good e u (l ++ [x]) :=
 ⟨h.e0, h.e1, h.u0, h.u1, by simp; omega, fun y hy => by
  rcases List.mem_append.1 hy with h1 | h1
  ·exact h.all y h1
  ·rw [List.mem_singleton.1 h1]; exact hx⟩
theorem count_odd (e u : Int) (p : Option Addr) (l : List Int) (cap : Nat) (w : World) (h : Ints w p l) (hg : En.Good e u []) (hl : l.length ≤ 64) (hbad : ¬ En.Good e u l) :
  Calls Tryz.prog 105 #[I O e, I O u, .slice p l.length cap] w fun en w' => en = .returned (.tuple #[.agg #[I O 0, .slice none 0 0, I O 0], I O 67]) ∧ Below w.heap.size w w' := by
 have H := mh h; have G := mh hg; have e0 := hg.e0; have e1 := hg.e1; have u0 := hg.u0; have u1 := hg.u1; have HBAD := mh hbad; have q0 : 0 ≤ e / u := Int.ediv_nonneg e0 (by omega); have q1 : e / u ≤ 68719476736 := by have := Int.ediv_le_self u e0; omega
 have hu0 : ¬ u = 0 := by omega
 clear h hg hbad
 go_enter Tryz.func105, Tryz.ntmps105
 go_wp2
 have hst : Cnt w ((w.alloc (Obj.cells #[I O 0, .slice none 0 0, I O 0] 164)).alloc (Obj.cells #[I O (e / u), .slice none 0 0, I O 0] 164)) w.heap.size e u [] (.slice none 0 0) :=
  ⟨by go_grown, Own.nil _ _ _, by go_simp, by go_simp, by go_simp, by go_simp, by go_simp, by go_simp, by go_simp, by go_simp, (by show _ = some (Value.int .i64 0); go_simp), by go_simp, by go_simp, by simp⟩
 have HST := mh hst; clear hst; obtain ⟨i0, hi, hz0, hz1, hz2⟩ := info_parts info_int; have HI := mh (And.intro hi (And.intro hz0 (And.intro hz1 hz2))); clear hi hz0 hz1 hz2
 go_loopw [39, 9] (fun i s wr => ∃ (k : Nat) (v : Value), k ≤ l.length ∧ i = I O k ∧ s = I O (Sh.sum (l.take k)) ∧ En.Good e u (l.take k) ∧ Cnt w wr w.heap.size e u (l.take k) v) (fun i _ _ => l.length - (intOf i).toNat)
 case atStart => exact ⟨0, _, Nat.zero_le _, rfl, by simp [Sh.sum], G.out, HST.out⟩
 case round =>
  clear HST; obtain ⟨k, v, hk, rfl, rfl, hGk, hC⟩ := hrel; have GK := mh hGk; clear hGk; have HC := mh hC; have hs0 := GK.out.sum k; have hus := GK.out.usum k; rw [List.take_take, Nat.min_self] at hs0 hus
  by_cases hlt : k < l.length
  ·obtain ⟨b, off, x, rfl, hbl, hcell0, hx⟩ := H.out.get hlt
   have hcell : wr.cell? ⟨b, off + k, none⟩ = some (I O x) := (hC.below.cell (p := ⟨b, off + k, none⟩) hbl).trans hcell0; have hst := mh (En.take_snoc hlt)
   by_cases hxb : 0 ≤ x ∧ x ≤ 68719476736
   case neg =>
    have hbel := HC.out.below; have lt0 := HC.out.lt; have d0 := HC.out.a0; have d1 := HC.out.a1; have d2 := HC.out.a2; have g0 := HC.out.af0; have g1 := HC.out.af1; have g2 := HC.out.af2; have hxb' : x < 0 ∨ 68719476736 < x := by omega
    clear hxb hC
    go_wp2
    all_goals
     refine bodyPost_ret (v := .tuple #[.agg #[I O 0, .slice none 0 0, I O 0], I O 67]) ?_ rfl ⟨rfl, by go_grown⟩
     rw [results_cell_tmp rfl]; go_simp
   have hG1 : En.Good e u (l.take k ++ [x]) := GK.out.snoc hxb (by rw [List.length_take]; omega); have hs1 := hG1.sum (k + 1); have hus1 := hG1.usum (k + 1); have hlk : (l.take k ++ [x]).length = k + 1 := by simp; omega
   rw [List.take_of_length_le (by omega), Sh.sum_snoc] at hs1; rw [List.take_of_length_le (by omega), En.usum_snoc] at hus1; have HG1 := mh hG1; clear hG1 hlk; have c1 := hC.b1; have c2 := hC.b2; have c3 := hC.bf1; have c4 := hC.bf2; clear hC hcell0; have x0 : 0 ≤ x / u := Int.ediv_nonneg hxb.1 (by omega); have x1 : x / u ≤ 68719476736 := by have := Int.ediv_le_self u hxb.1; omega
   go_wp2_with fail
   go_region
   go_wp2_with fail
   have hdq : IntKind.i64.wrap (x.tdiv u) = x / u := by
    rw [Int.tdiv_eq_ediv_of_nonneg hxb.1]; generalize x / u = y at x0 x1 ⊢; rw [IntKind.wrap_i64]; omega
   have lt0 := HC.out.lt
   go_region_law ((refine Own.step HI.out.1 HI.out.2.1 HI.out.2.2.1 HI.out.2.2.2 Tryz.underlying22 (by rfl) (.tmp 61) (.tmp 65) (by rfl) (w.heap.size + 1 + 1) v (En.units u (l.take k)) (x / u) wr.heap.size (World.ownsRow.drew (World.ownsRow.drew (World.ownsRow.alloc (ownsRow_setCell_below HC.out.own (by simp) _) _))) (by rfl) (by rfl) (by go_simp) (by have := HC.out.lt; simp; omega) (by rw [En.units_len]; simp; omega) ?_; intro v1 w1 hown1 hb1; obtain ⟨p1, cc1, rfl, hI1⟩ := hown1.ints; clear hI1; have k1 := (hb1.cell (p := ⟨w.heap.size + 1, 1, none⟩) (by simp)).trans (show _ = some v by first | (go_simp; done) | (go_simp; exact c1)); have k2 := (hb1.frozen (p := ⟨w.heap.size + 1, 1, none⟩) (by simp)).trans (show _ = false by first | (go_simp; done) | (go_simp; exact c3))))
   all_goals
    have hC2 := HC.out.step hb1 hown1; rw [← hx.out, ← hst.out] at hC2; rw [hx.out] at hC2; have HC2 := mh hC2; clear hC2 hown1 hb1 HC
    go_wp2
    go_roundw
    case rel => exact ⟨k + 1, _, by omega, by go_num, by rw [hst.out, hx.out, Sh.sum_snoc], by rw [hst.out, hx.out]; exact HG1.out, by simpa using HC2.out⟩
    case measure => simp [intOf]; omega
  ·exact absurd (by have := GK.out; rwa [show k = l.length by omega, List.take_length] at this) HBAD.out
theorem count_bad (e u : Int) (p : Option Addr) (l : List Int) (cap : Nat) (w : World) (h : Ints w p l) (hg : En.err e u l ≠ 0) :
  Calls Tryz.prog 105 #[I O e, I O u, .slice p l.length cap] w fun en w' => en = .returned (.tuple #[.agg #[I O 0, .slice none 0 0, I O 0], I O (En.err e u l)]) ∧ Below w.heap.size w w' := by
 by_cases h1 : En.money e = false
 ·have h1' := En.money_not.1 h1
  have he : En.err e u l = 67 := by unfold En.err; rw [if_pos h1]
  rw [he]; clear hg
  go_enter Tryz.func105, Tryz.ntmps105
  go_wp2
  all_goals
   refine bodyPost_ret (v := .tuple #[.agg #[I O 0, .slice none 0 0, I O 0], I O 67]) ?_ rfl ⟨rfl, by go_grown⟩
   rw [results_cell_tmp rfl]; go_simp
 have m := En.money_iff.1 (show En.money e = true by simpa using h1)
 by_cases h2 : u < 1 ∨ 100000 < u
 ·have he : En.err e u l = 2 := by unfold En.err; rw [if_neg h1, if_pos h2]
  rw [he]; clear hg
  go_enter Tryz.func105, Tryz.ntmps105
  go_wp2
  all_goals
   refine bodyPost_ret (v := .tuple #[.agg #[I O 0, .slice none 0 0, I O 0], I O 2]) ?_ rfl ⟨rfl, by go_grown⟩
   rw [results_cell_tmp rfl]; go_simp
 by_cases h3 : 64 < l.length
 ·have he : En.err e u l = 1 := by unfold En.err; rw [if_neg h1, if_neg h2, if_pos h3]
  rw [he]; have u0 : 1 ≤ u := by omega
  have u1 : u ≤ 100000 := by omega
  have hl : (64 : Int) < (l.length : Int) := by omega
  clear hg h2
  go_enter Tryz.func105, Tryz.ntmps105
  go_wp2
  all_goals
   refine bodyPost_ret (v := .tuple #[.agg #[I O 0, .slice none 0 0, I O 0], I O 1]) ?_ rfl ⟨rfl, by go_grown⟩
   rw [results_cell_tmp rfl]; go_simp
 have hb : ¬ En.Good e u l := fun hG => hg (En.err_of hG)
 have he : En.err e u l = 67 := by
  unfold En.err at hg ⊢; rw [if_neg h1, if_neg h2, if_neg h3] at hg ⊢
  split at hg
  ·rw [if_pos (by assumption)]
  ·exact absurd rfl hg
 rw [he]; exact count_odd e u p l cap w h ⟨m.1, m.2, by omega, by omega, by simp, by simp⟩ (by omega) hb
theorem scaledu_any (q : Int) (v : Value) (s : Int) (w : World) :
  Calls Tryz.prog 106 #[.agg #[I O q, v, I O s]] w fun en w' => en = .returned (.bool (decide (q < s))) ∧ Below w.heap.size w w' := by
 go_enter Tryz.func106, Tryz.ntmps106
 go_wp2
 go_ret
 exact ⟨rfl, by go_grown⟩
theorem scaled_any (e u : Int) (p : Option Addr) (l : List Int) (cap : Nat) (w : World) (h : Ints w p l) :
  Calls Tryz.prog 120 #[I O e, I O u, .slice p l.length cap] w fun en w' => en = .returned (.bool (En.scaled e u l)) ∧ Below w.heap.size w w' := by
 by_cases hg : En.err e u l = 0
 ·have hs : En.scaled e u l = decide (e / u < En.usum u l) := by unfold En.scaled; rw [hg]; rfl
  rw [hs]; have hc := mh (count_good e u p l cap w h (En.good_of hg)); clear h hg hs
  go_enter Tryz.func120, Tryz.ntmps120
  go_wp2_with (first | (go_at_call 105; refine (hc.out).mono ?_; rintro en w1 ⟨q, c, rfl, hI, hb1⟩) | (go_at_call 106; refine (scaledu_any _ _ _ _).mono ?_; rintro en w2 ⟨rfl, hb2⟩))
  go_ret
  exact ⟨rfl, bnext (hb1.alloc hb1.size _) (by have := hb1.size; simp; omega) hb2⟩
 ·have hs : En.scaled e u l = false := by unfold En.scaled; rw [dqf hg]; rfl
  rw [hs]; have hc := mh (count_bad e u p l cap w h hg); clear h hs
  go_enter Tryz.func120, Tryz.ntmps120
  go_wp2_with (first | (go_at_call 105; refine (hc.out).mono ?_; rintro en w1 ⟨rfl, hb1⟩))
  go_ret
  exact ⟨rfl, hb1.alloc hb1.size _⟩
theorem factor_any (e u : Int) (p : Option Addr) (l : List Int) (cap : Nat) (w : World) (h : Ints w p l) :
  Calls Tryz.prog 119 #[I O e, I O u, .slice p l.length cap] w fun en w' => en = .returned (.tuple #[I O (En.factor e u l).1, I O (En.factor e u l).2, I O (En.err e u l)]) ∧ Below w.heap.size w w' := by
 by_cases hg : En.err e u l = 0
 ·have hc := mh (count_good e u p l cap w h (En.good_of hg))
  by_cases hq : e / u < En.usum u l
  ·have hs : En.factor e u l = (e / u, En.usum u l) := by unfold En.factor; rw [if_pos hg, if_pos hq]
   rw [hs, hg]; have hd : decide (e / u < En.usum u l) = true := dqt hq; clear h hg hs
   go_enter Tryz.func119, Tryz.ntmps119
   go_wp2_with (first | (go_at_call 105; refine (hc.out).mono ?_; rintro en w1 ⟨q, c, rfl, hI, hb1⟩) | (go_at_call 106; refine (scaledu_any _ _ _ _).mono ?_; rintro en w2 ⟨rfl, hb2⟩))
   have k0 := (hb2.cell (p := ⟨w1.heap.size, 0, none⟩) (by simp)).trans (show _ = some (Value.int .i64 (e / u)) by go_simp); have k2 := (hb2.cell (p := ⟨w1.heap.size, 2, none⟩) (by simp)).trans (show _ = some (Value.int .i64 (En.usum u l)) by go_simp)
   go_region
   go_wp2
   go_ret3
   exact ⟨rfl, bnext (hb1.alloc hb1.size _) (by have := hb1.size; simp; omega) hb2.drew⟩
  ·have hs : En.factor e u l = (1, 1) := by unfold En.factor; rw [if_pos hg, if_neg hq]
   rw [hs, hg]; have hd : decide (e / u < En.usum u l) = false := dqf hq; clear h hg hs
   go_enter Tryz.func119, Tryz.ntmps119
   go_wp2_with (first | (go_at_call 105; refine (hc.out).mono ?_; rintro en w1 ⟨q, c, rfl, hI, hb1⟩) | (go_at_call 106; refine (scaledu_any _ _ _ _).mono ?_; rintro en w2 ⟨rfl, hb2⟩))
   go_ret3
   exact ⟨rfl, bnext (hb1.alloc hb1.size _) (by have := hb1.size; simp; omega) hb2⟩
 ·have hs : En.factor e u l = (0, 0) := by unfold En.factor; rw [if_neg hg]
  rw [hs]; have hc := mh (count_bad e u p l cap w h hg); clear h hs
  go_enter Tryz.func119, Tryz.ntmps119
  go_wp2_with (first | (go_at_call 105; refine (hc.out).mono ?_; rintro en w1 ⟨rfl, hb1⟩))
  go_ret3
  exact ⟨rfl, hb1.alloc hb1.size _⟩
end Go.Proofs.YtmlfcpglhipjgaaGreat
