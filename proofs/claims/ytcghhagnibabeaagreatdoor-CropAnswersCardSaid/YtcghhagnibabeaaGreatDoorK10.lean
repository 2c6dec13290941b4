/-
  THE WALK over crop.read.
-/
import Derived.Test.YtcghhagnibabeaaGreatDoorMD
import Derived.Test.YtcghhagnibabeaaGreatDoorMA
import Derived.Test.YtcghhagnibabeaaGreatDoorME
import Derived.Lib.Explode
import Derived.Deep.DeepCutAuto
import Derived.Deep.RegionHeld3
namespace Go.Proofs.YtcghhagnibabeaaGreatDoor
open Go.RowKit Cr

def ReadGive (ws : List ByteArray) (w : World) (e : Ending) (w' : World) : Prop :=
  ∃ (nm : ByteArray) (fam mk : Int) (q : Bool), e = .returned (.tuple #[.agg #[.string nm, .int .i64 fam, .int .i64 mk], .bool q]) ∧ lineC ws = (if q = true then some ⟨nm, fam, mk⟩ else none) ∧ Below w.heap.size w w'

theorem line_len {ws : List ByteArray} (h : ws.length ≠ 4) : lineC ws = none := by
  unfold lineC
  split
  · exact absurd rfl h
  · rfl

theorem line_four (a b f m : ByteArray) : lineC [a, b, f, m] = if a.data.toList = [99, 114, 111, 112] ∧ Wo.nameB b.data.toList = true ∧ Wo.numB f.data.toList 0 40 = true then (unm m.data.toList).map fun (k : Nat) => (⟨b, Wo.numV f.data.toList 0 40, (k : Int)⟩ : Crp) else none := rfl

theorem undash_trim (l : List UInt8) : Lib.trimPrefix l [45] = undash l := by
  unfold Lib.trimPrefix undash
  cases l with
  | nil => rfl
  | cons c r =>
    show (if Lib.hasPrefix (c :: r) [45] = true then List.drop [45].length (c :: r) else c :: r) = (if c = 45 then r else c :: r)
    by_cases h : c = 45
    · subst h
      rw [if_pos rfl, if_pos (by simp [Lib.hasPrefix, List.isPrefixOf])]
      rfl
    · have : Lib.hasPrefix (c :: r) [45] = false := by
        show [45].isPrefixOf (c :: r) = false
        simp [List.isPrefixOf]
        exact fun k => h k.symm
      rw [this, if_neg (by simp), if_neg h]

theorem read_none {ws : List ByteArray} (h : lineC ws = none) (nm : ByteArray) (fam mk : Int) (w w' : World) (hb : Below w.heap.size w w') : ReadGive ws w (.returned (.tuple #[.agg #[.string nm, .int .i64 fam, .int .i64 mk], .bool false])) w' := ⟨nm, fam, mk, false, rfl, by rw [h]; rfl, hb⟩

theorem four_of {ws : List ByteArray} (h : ws.length = 4) : ∃ a b f m, ws = [a, b, f, m] := by
  match ws, h with
  | [a, b, f, m], _ => exact ⟨a, b, f, m, rfl⟩

/-- While the letters are read: the crop in block bc, the letters in block bl. -/
structure RdSt (w wr : World) (bc bl : Nat) (b U : ByteArray) (v : Int) (j : Nat) : Prop where
  r0 : wr.cell? ⟨w.heap.size, 0, none⟩ = some (.string ⟨#[]⟩)
  r1 : wr.cell? ⟨w.heap.size, 1, none⟩ = some (.int .i64 0)
  r2 : wr.cell? ⟨w.heap.size, 2, none⟩ = some (.int .i64 0)
  rf : ∀ i, wr.frozen? ⟨w.heap.size, i, none⟩ = false
  c0 : wr.cell? ⟨bc, 0, none⟩ = some (.string b)
  c1 : wr.cell? ⟨bc, 1, none⟩ = some (.int .i64 v)
  c2 : wr.cell? ⟨bc, 2, none⟩ = some (.int .i64 (Cr.fold (U.data.toList.take j) : Int))
  f2 : wr.frozen? ⟨bc, 2, none⟩ = false
  let_ : Recs SB wr (some ⟨bl, 0, none⟩) (Lib.charsB U)
  below : Below w.heap.size w wr
  lt : w.heap.size < bc ∧ bc < bl ∧ bl < wr.heap.size

theorem bits_or : ∀ x, x < 32 → ∀ y, y < 32 → bits .or .i64 ((x : Nat) : Int) ((y : Nat) : Int) = ((x ||| y : Nat) : Int) := by decide +kernel

theorem chars_len (s : ByteArray) : (Lib.charsB s).length = s.size := by unfold Lib.charsB; exact Lib.charsUpTo_length s s.size

theorem RdSt.letter {w wr : World} {bc bl : Nat} {b U : ByteArray} {v : Int} {j : Nat} (h : RdSt w wr bc bl b U v j) (hj : j < U.size) : wr.cell? ⟨bl, j, none⟩ = some (.string ⟨#[U[j]]⟩) := by
  obtain ⟨b1, o1, e, -, hc⟩ := h.let_.word (j := j) (by rw [chars_len]; exact hj)
  cases e
  rw [Nat.zero_add] at hc
  rw [hc]
  have : (Lib.charsB U)[j]'(by rw [chars_len]; exact hj) = U.extract j (j + 1) := by simp [Lib.charsB, Lib.charsUpTo]
  rw [this, chars_at U j hj]

theorem RdSt.next {w wr : World} {bc bl : Nat} {b U : ByteArray} {v : Int} {j : Nat} (h : RdSt w wr bc bl b U v j) (hj : j < U.size) : RdSt w (wr.setCell ⟨bc, 2, none⟩ (.int .i64 (bits .or .i64 (Cr.fold (U.data.toList.take j) : Int) (markOf U[j] : Int)))) bc bl b U v (j + 1) := by
  obtain ⟨l1, l2, l3⟩ := h.lt
  have hs : ∀ i, (wr.setCell ⟨bc, 2, none⟩ (.int .i64 (bits .or .i64 (Cr.fold (U.data.toList.take j) : Int) (markOf U[j] : Int)))).cell? ⟨w.heap.size, i, none⟩ = wr.cell? ⟨w.heap.size, i, none⟩ := fun i => World.cell?_setCell_other _ _ _ _ (fun e => by have := congrArg Addr.block e; simp at this; omega)
  refine ⟨(hs 0).trans h.r0, (hs 1).trans h.r1, (hs 2).trans h.r2, fun i => by rw [World.frozen?_setCell]; exact h.rf i, ?_, ?_, ?_, ?_, h.let_.aside (fun x e => by cases e; show bl ≠ bc; omega), h.below.trans ((Below.refl _ _).setCell (by show _ ≤ bc; omega) _), l1, l2, by rw [setCell_size]; exact l3⟩
  · rw [World.cell?_setCell_other _ _ _ _ (fun e => by cases e)]; exact h.c0
  · rw [World.cell?_setCell_other _ _ _ _ (fun e => by cases e)]; exact h.c1
  · rw [World.cell?_setCell_same _ _ _ h.c2, bits_or _ (fold_lt _) _ (markOf_lt _), Wo.take_snoc_bytes U j hj, fold_snoc]
  · rw [World.frozen?_setCell]; exact h.f2

theorem RdSt.drew {w wr : World} {bc bl : Nat} {b U : ByteArray} {v : Int} {j : Nat} (h : RdSt w wr bc bl b U v j) : RdSt w wr.drew bc bl b U v j := ⟨h.r0, h.r1, h.r2, h.rf, h.c0, h.c1, h.c2, h.f2, h.let_.drew, h.below.drew, h.lt⟩

theorem RdSt.start (w w2 : World) (b U : ByteArray) (v : Int) (hb : Below w.heap.size w w2) (hz : w.heap.size < w2.heap.size) (hUm : U.size ≤ maxLen) (r0 : w2.cell? ⟨w.heap.size, 0, none⟩ = some (.string ⟨#[]⟩)) (r1 : w2.cell? ⟨w.heap.size, 1, none⟩ = some (.int .i64 0)) (r2 : w2.cell? ⟨w.heap.size, 2, none⟩ = some (.int .i64 0))
    (rf : ∀ i, w2.frozen? ⟨w.heap.size, i, none⟩ = false) :
    RdSt w (((w2.alloc (.cells #[.string b, .int .i64 v, .int .i64 0] 31)).iter U U.size).alloc (.cells ((Lib.charsB U).map Value.string).toArray 9)) w2.heap.size ((w2.alloc (.cells #[.string b, .int .i64 v, .int .i64 0] 31)).iter U U.size).heap.size b U v 0 := by
  obtain ⟨V, eV⟩ : ∃ V, (w2.alloc (.cells #[.string b, .int .i64 v, .int .i64 0] 31)).iter U U.size = V := ⟨_, rfl⟩
  have hV : Below (w2.heap.size + 1) (w2.alloc (.cells #[.string b, .int .i64 v, .int .i64 0] 31)) V := by
    rw [← eV]; exact (Below.refl _ _).alloc (by rw [World.size_alloc]; exact Nat.le_refl _) _
  have hVs : V.heap.size = w2.heap.size + 2 := by rw [← eV]; show (World.alloc _ _).heap.size = _; rw [World.size_alloc, World.size_alloc]
  rw [eV]
  clear eV
  have h3 : Below V.heap.size V (V.alloc (.cells ((Lib.charsB U).map Value.string).toArray 9)) := (Below.refl _ _).alloc (Nat.le_refl _) _
  have hA : Below w2.heap.size w2 (w2.alloc (.cells #[.string b, .int .i64 v, .int .i64 0] 31)) := (Below.refl _ _).alloc (Nat.le_refl _) _
  have h23 : Below w2.heap.size w2 (V.alloc (.cells ((Lib.charsB U).map Value.string).toArray 9)) := (hA.trans (hV.mono (by omega))).trans (h3.mono (by omega))
  have hc : ∀ i, i < 3 → (V.alloc (.cells ((Lib.charsB U).map Value.string).toArray 9)).cell? ⟨w2.heap.size, i, none⟩ = (#[.string b, .int .i64 v, .int .i64 0] : Array Value)[i]? := fun i _ =>
    (h3.cell (p := ⟨w2.heap.size, i, none⟩) (by show w2.heap.size < _; omega)).trans ((hV.cell (p := ⟨w2.heap.size, i, none⟩) (by show w2.heap.size < _; omega)).trans (World.cell?_alloc_new _ _ _ _))
  have hr := Recs.lit (S := SB) V 9 (Lib.charsB U) (by rw [chars_len]; exact hUm)
  rw [flat_str] at hr
  exact ⟨(h23.cell (p := ⟨w.heap.size, 0, none⟩) hz).trans r0, (h23.cell (p := ⟨w.heap.size, 1, none⟩) hz).trans r1, (h23.cell (p := ⟨w.heap.size, 2, none⟩) hz).trans r2, fun i => (h23.frozen (p := ⟨w.heap.size, i, none⟩) hz).trans (rf i),
    hc 0 (by decide), hc 1 (by decide), hc 2 (by decide), (h3.frozen (p := ⟨w2.heap.size, 2, none⟩) (by show w2.heap.size < _; omega)).trans ((hV.frozen (p := ⟨w2.heap.size, 2, none⟩) (by show w2.heap.size < _; omega)).trans (by simp)), hr, hb.trans (h23.mono hb.size), hz, by omega, by rw [World.size_alloc]; omega⟩

/-- A region whose first n operations only read or call quietly; what follows them stands behind a letter, so that nothing runs ahead into it. -/
theorem wp_tailQ {P : Program} {id : Nat} {Q : Exit → Act → World → Prop} {a : Act} {w : World} {l : List Oper} (n : Nat) (hm : P.follows .mixedOrders = true) (hB : Region.lexTailB .any l.toArray n = true)
    (h : ∀ R : Act → Prop, (∀ a', wpList P l.toArray Q (l.drop n) a' w.drew → R a') → wpStill P l.toArray w.drew R (l.take n) a) : (Code.region id l.toArray true).wp P Q a w := wp_tail n hm hB (h _ fun _ k => k)

theorem wpStill_skip {P : Program} {ops : Array Oper} {w : World} {Q : Act → Prop} {a : Act} {o : Oper} {rest : List Oper} (h0 : Region.wanted o (yielded ops a.tmps) = false) (h : wpStill P ops w Q rest (a.put o.dst undef)) : wpStill P ops w Q (o :: rest) a := by
  rw [wpStill, if_neg (by rw [h0]; simp)]
  exact h

theorem put3_cells {W : World} {t : Nat} {x0 y0 z0 : Value} (r0 : W.cell? ⟨t, 0, none⟩ = some x0) (r1 : W.cell? ⟨t, 1, none⟩ = some y0) (r2 : W.cell? ⟨t, 2, none⟩ = some z0) (x y z : Value) :
    (((W.setCell ⟨t, 0, none⟩ x).setCell ⟨t, 1, none⟩ y).setCell ⟨t, 2, none⟩ z).cell? ⟨t, 0, none⟩ = some x ∧ (((W.setCell ⟨t, 0, none⟩ x).setCell ⟨t, 1, none⟩ y).setCell ⟨t, 2, none⟩ z).cell? ⟨t, 1, none⟩ = some y ∧ (((W.setCell ⟨t, 0, none⟩ x).setCell ⟨t, 1, none⟩ y).setCell ⟨t, 2, none⟩ z).cell? ⟨t, 2, none⟩ = some z := by
  refine ⟨?_, ?_, ?_⟩
  · rw [World.cell?_setCell_other _ _ _ _ (fun e => by cases e), World.cell?_setCell_other _ _ _ _ (fun e => by cases e), World.cell?_setCell_same _ _ _ r0]
  · rw [World.cell?_setCell_other _ _ _ _ (fun e => by cases e), World.cell?_setCell_same _ _ _ ((World.cell?_setCell_other _ _ _ _ (fun e => by cases e)).trans r1)]
  · rw [World.cell?_setCell_same _ _ _ ((World.cell?_setCell_other _ _ _ _ (fun e => by cases e)).trans ((World.cell?_setCell_other _ _ _ _ (fun e => by cases e)).trans r2))]

theorem put3_below {w W : World} (h : Below w.heap.size w W) (x y z : Value) : Below w.heap.size w (((W.setCell ⟨w.heap.size, 0, none⟩ x).setCell ⟨w.heap.size, 1, none⟩ y).setCell ⟨w.heap.size, 2, none⟩ z) :=
  ((h.setCell (Nat.le_refl _) _).setCell (Nat.le_refl _) _).setCell (Nat.le_refl _) _

theorem keep_put3 {W : World} {bc B O t : Nat} {c0 c1 c2 c3 : Value} (h : W.cell? ⟨bc, 0, none⟩ = some c0 ∧ W.cell? ⟨bc, 1, none⟩ = some c1 ∧ W.cell? ⟨bc, 2, none⟩ = some c2 ∧ W.cell? ⟨B, O, none⟩ = some c3) (h1 : t ≠ bc) (h2 : t ≠ B) (x y z : Value) :
    (((W.setCell ⟨t, 0, none⟩ x).setCell ⟨t, 1, none⟩ y).setCell ⟨t, 2, none⟩ z).cell? ⟨bc, 0, none⟩ = some c0 ∧ (((W.setCell ⟨t, 0, none⟩ x).setCell ⟨t, 1, none⟩ y).setCell ⟨t, 2, none⟩ z).cell? ⟨bc, 1, none⟩ = some c1 ∧ (((W.setCell ⟨t, 0, none⟩ x).setCell ⟨t, 1, none⟩ y).setCell ⟨t, 2, none⟩ z).cell? ⟨bc, 2, none⟩ = some c2 ∧ (((W.setCell ⟨t, 0, none⟩ x).setCell ⟨t, 1, none⟩ y).setCell ⟨t, 2, none⟩ z).cell? ⟨B, O, none⟩ = some c3 := by
  have k : ∀ (b i j : Nat), t ≠ b → (⟨t, i, none⟩ : Addr) ≠ ⟨b, j, none⟩ := fun b i j hn e => hn (by cases e; rfl)
  obtain ⟨a0, a1, a2, a3⟩ := h
  refine ⟨?_, ?_, ?_, ?_⟩ <;> (rw [World.cell?_setCell_other _ _ _ _ (fun e => by first | exact k _ _ _ h1 e | exact k _ _ _ h1 e.symm | exact k _ _ _ h2 e | exact k _ _ _ h2 e.symm), World.cell?_setCell_other _ _ _ _ (fun e => by first | exact k _ _ _ h1 e | exact k _ _ _ h1 e.symm | exact k _ _ _ h2 e | exact k _ _ _ h2 e.symm), World.cell?_setCell_other _ _ _ _ (fun e => by first | exact k _ _ _ h1 e | exact k _ _ _ h1 e.symm | exact k _ _ _ h2 e | exact k _ _ _ h2 e.symm)]; assumption)

set_option maxRecDepth 100000 in
set_option maxHeartbeats 16000000 in
theorem read_any (q : Option Addr) (ws : List ByteArray) (n c : Nat) (w : World) (hn : ws.length = n) (h : Recs SB w q ws) (hE : Env w) (ha : ∀ x ∈ ws, x.size ≤ 16384 ∧ ∀ y ∈ x.data.toList, y.toNat < 128) :
    Calls Tryz.prog 37 #[.slice q n c] w (ReadGive ws w) := by
  have hl := h.len
  rw [hn] at hl
  have hb0 : Below w.heap.size w (w.alloc (.cells #[.string ⟨#[]⟩, .int .i64 0, .int .i64 0] 31)) := (Below.refl _ _).alloc (Nat.le_refl _) _
  by_cases h4 : n = 4
  rotate_left
  · have HF := Lib.hid (read_none (line_len (by rw [hn]; exact h4)) ⟨#[]⟩ 0 0 w _ hb0)
    have hne : ((n : Int) != 4) = true := by simp; omega
    clear h hE ha h4 hb0 hn
    go_enter Tryz.func37, Tryz.ntmps37
    go_wp2
    exact bodyPost_ret (v := .tuple #[.agg #[.string ⟨#[]⟩, .int .i64 0, .int .i64 0], .bool false]) (by simp [results, Tryz.results37, go_sem]) rfl HF.out
  subst h4
  obtain ⟨a, b, f, m, rfl⟩ := four_of hn
  obtain ⟨B, O, rfl, hBl, g0⟩ := h.word (j := 0) (by simp)
  obtain ⟨B1, O1, e1, -, g1⟩ := h.word (j := 1) (by simp)
  cases e1
  obtain ⟨B2, O2, e2, -, g2⟩ := h.word (j := 2) (by simp)
  cases e2
  obtain ⟨B3, O3, e3, -, g3⟩ := h.word (j := 3) (by simp)
  cases e3
  simp only [List.getElem_cons_zero, List.getElem_cons_succ, Nat.add_zero] at g0 g1 g2 g3
  have hfz := (ha f (by simp)).1
  have hbz := (ha b (by simp)).1
  have hmz := (ha m (by simp)).1
  have HMA := Lib.hid (ha m (by simp)).2
  have hl4 := line_four a b f m
  clear h ha hn hl
  by_cases hc : a.data.toList = [99, 114, 111, 112]
  rotate_left
  · have HF := Lib.hid (read_none (by rw [hl4, if_neg (fun h => hc h.1)]) ⟨#[]⟩ 0 0 w _ hb0)
    have hne : (a.toList == [99, 114, 111, 112]) = false := by rw [ByteArray.toList_eq]; simpa using hc
    clear hc hl4 hE hb0
    go_enter Tryz.func37, Tryz.ntmps37
    go_wp2
    exact bodyPost_ret (v := .tuple #[.agg #[.string ⟨#[]⟩, .int .i64 0, .int .i64 0], .bool false]) (by simp [results, Tryz.results37, go_sem]) rfl HF.out
  have hce : (a.toList == [99, 114, 111, 112]) = true := by rw [ByteArray.toList_eq]; simpa using hc
  obtain ⟨nb, enb⟩ : ∃ x, Wo.nameB b.data.toList = x := ⟨_, rfl⟩
  have NM := Lib.hid (show ∀ W, Calls Tryz.prog 45 #[.string b] W (fun e w' => e = .returned (.bool nb) ∧ W = w') from fun W => enb ▸ name_any b W (by omega))
  cases nb with
  | false =>
    have HF := Lib.hid (read_none (by rw [hl4, if_neg (fun h => by rw [enb] at h; cases h.2.1)]) ⟨#[]⟩ 0 0 w _ hb0)
    clear hc hl4 hE hb0 enb
    go_enter Tryz.func37, Tryz.ntmps37
    go_wp2_with (first | (go_at_call 45; (with_reducible refine Calls.mono (NM.out _) ?_); rintro e w1 ⟨rfl, rfl⟩))
    exact bodyPost_ret (v := .tuple #[.agg #[.string ⟨#[]⟩, .int .i64 0, .int .i64 0], .bool false]) (by simp [results, Tryz.results37, go_sem]) rfl HF.out
  | true =>
    obtain ⟨v, ev⟩ : ∃ x, Wo.numV f.data.toList 0 40 = x := ⟨_, rfl⟩
    obtain ⟨ok, eok⟩ : ∃ x, Wo.numB f.data.toList 0 40 = x := ⟨_, rfl⟩
    have NU := Lib.hid (show Calls Tryz.prog 71 #[.string f, .int .i64 0, .int .i64 40] (w.alloc (.cells #[.string ⟨#[]⟩, .int .i64 0, .int .i64 0] 31)) (fun e w' => e = .returned (.tuple #[.int .i64 v, .bool ok]) ∧ Below (w.alloc (.cells #[.string ⟨#[]⟩, .int .i64 0, .int .i64 0] 31)).heap.size (w.alloc (.cells #[.string ⟨#[]⟩, .int .i64 0, .int .i64 0] 31)) w') from
      ev ▸ eok ▸ number_any f 0 40 _ (hE.below hb0) (by omega))
    obtain ⟨M, eM⟩ : ∃ x, Cr.fold (undash m.data.toList) = x := ⟨_, rfl⟩
    have hM : M < 32 := by rw [← eM]; exact fold_lt _
    have hL : lineC [a, b, f, m] = if ok = true ∧ mword M = m.data.toList then some ⟨b, v, M⟩ else none := by
      rw [hl4, enb, eok, ev, unm_fold, eM]
      cases ok with
      | false => rw [if_neg (fun h => by cases h.2.2), if_neg (fun h => by cases h.1)]
      | true =>
        rw [if_pos ⟨hc, rfl, rfl⟩]
        by_cases hmm : mword M = m.data.toList
        · rw [if_pos hmm, if_pos ⟨rfl, hmm⟩]; rfl
        · rw [if_neg hmm, if_neg (fun h => hmm h.2)]; rfl
    have HLC := Lib.hid hL
    have HB0 := Lib.hid hb0
    obtain ⟨U, eU⟩ : ∃ U : ByteArray, (⟨(Lib.trimPrefix m.data.toList [45]).toArray⟩ : ByteArray) = U := ⟨_, rfl⟩
    have hU : U.data.toList = undash m.data.toList := by rw [← eU]; exact undash_trim _
    have hUz : U.size ≤ 16384 := by
      have h1 : (undash m.data.toList).length ≤ m.data.toList.length := by
        unfold undash; split
        · exact Nat.zero_le _
        · split <;> simp_all
      rw [size_len] at h1
      rw [← size_len, hU]
      omega
    have hUa : ∀ (j : Nat) x, U.data.toList[j]? = some x → x.toNat < 128 := fun j x hx => by
      rw [hU] at hx
      have hm := List.mem_of_getElem? hx
      refine HMA.out x ?_
      unfold undash at hm
      split at hm
      · cases hm
      · rename_i c r e
        split at hm
        · rw [e]; exact List.mem_cons_of_mem _ hm
        · rw [e]; exact hm
    have TP := Lib.hid (show ∀ W, Calls Tryz.prog 72 #[.string m, .string ⟨#[45]⟩] W (fun e w' => e = .returned (.string U) ∧ w' = W) from fun W => eU ▸ Tryz.strings_TrimPrefix m ⟨#[45]⟩ W)
    have SC2 := Lib.hid (fun (W : World) => Tryz.strings_Split_chars U ⟨#[]⟩ W rfl (by omega) hUa)
    have HU := Lib.hid hU
    have HEM := Lib.hid eM
    clear hc hl4 hE hb0 enb ev eok eM hL eU hU hUa
    go_enter Tryz.func37, Tryz.ntmps37
    go_wp2_with (first
      | (go_at_call 45; (with_reducible refine Calls.mono (NM.out _) ?_); rintro e w1 ⟨rfl, rfl⟩)
      | (go_at_call 71; (with_reducible refine Calls.mono NU.out ?_); rintro e w2 ⟨rfl, hb2⟩; have hb2' := HB0.out.trans (hb2.mono HB0.out.size); have hB2 : B < w2.heap.size := Nat.lt_of_lt_of_le hBl hb2'.size; have k1 := (hb2'.cell (p := ⟨B, O + 1, none⟩) hBl).trans g1; have k3 := (hb2'.cell (p := ⟨B, O + 3, none⟩) hBl).trans g3)
      | (go_at_call 72; (with_reducible refine Calls.mono (TP.out _) ?_); rintro e w3 ⟨rfl, hw3⟩; obtain rfl := hw3.symm)
      | (go_at_call 69; (with_reducible refine Calls.mono (SC2.out _) ?_); rintro e w4 ⟨rfl, hw4⟩))
    have HB2 := Lib.hid hb2'
    have ST := Lib.hid (RdSt.start w w2 b U v HB2.out (by have := hb2.size; simp at this; omega) (by unfold maxLen; omega) (((hb2.cell (p := ⟨w.heap.size, 0, none⟩) (by simp)).trans (World.cell?_alloc_new w #[.string ⟨#[]⟩, .int .i64 0, .int .i64 0] 31 0))) ((hb2.cell (p := ⟨w.heap.size, 1, none⟩) (by simp)).trans (World.cell?_alloc_new w #[.string ⟨#[]⟩, .int .i64 0, .int .i64 0] 31 1)) ((hb2.cell (p := ⟨w.heap.size, 2, none⟩) (by simp)).trans (World.cell?_alloc_new w #[.string ⟨#[]⟩, .int .i64 0, .int .i64 0] 31 2))
      (fun i => (hb2.frozen (p := ⟨w.heap.size, i, none⟩) (by simp)).trans (by simp)))
    have K3 := Lib.hid k3
    have hbc : w.heap.size < w2.heap.size := by have := hb2.size; simp at this; omega
    clear hb2 hb2' k1 k3 HB0
    obtain ⟨bl, ebl⟩ : ∃ x, ((w2.alloc (.cells #[.string b, .int .i64 v, .int .i64 0] 31)).iter U U.size).heap.size = x := ⟨_, rfl⟩
    rw [ebl] at ST ⊢
    clear ebl
    obtain ⟨bc, ebc⟩ : ∃ x, w2.heap.size = x := ⟨_, rfl⟩
    rw [ebc] at ST hbc hB2 ⊢
    clear ebc
    go_loopw [44] (fun i wr => ∃ j : Nat, j ≤ U.size ∧ i = .int .i64 j ∧ RdSt w wr bc bl b U v j) (fun i _ => U.size - (intOf i).toNat)
    case atStart => exact ⟨0, Nat.zero_le _, rfl, ST.out⟩
    case round =>
      clear ST
      obtain ⟨wo, rfl⟩ : ∃ wo : World, wo = wr := ⟨_, rfl⟩
      obtain ⟨j, hj, rfl, hS⟩ := hrel
      have HS := Lib.hid hS
      have hj0 : (0 : Int) ≤ (j : Int) := Int.natCast_nonneg _
      by_cases hlt : j < U.size
      · have hj1 : (j : Int) < (U.size : Int) := by omega
        have MK := Lib.hid (show ∀ W, Calls Tryz.prog 73 #[.string ⟨#[U[j]]⟩] W (fun e w' => e = .returned (.int .i64 (markOf U[j] : Int)) ∧ W = w') from fun W => mark_any U[j] W)
        have hlet := hS.letter hlt
        have c2 := hS.c2
        have f2 := hS.f2
        have hF := fold_lt (U.data.toList.take j)
        have HN := Lib.hid (hS.next hlt)
        obtain ⟨F, eF⟩ : ∃ F, Cr.fold (U.data.toList.take j) = F := ⟨_, rfl⟩
        rw [eF] at c2 hF HN
        have hm5 := markOf_lt U[j]
        clear eF hS
        go_wp2_with fail
        refine wp_tail 6 (by kernel_rfl) (by kernel_rfl) ?_
        simp only [List.take_succ_cons, List.take_zero, List.drop_succ_cons, List.drop_zero]
        repeat still_step
        still_call (Calls.turn (MK.out _))
        repeat still_step
        refine wpStill_nil ?_
        change wpList _ _ _ _ _ (World.drew _)
        go_wp2
        go_roundw
        case rel => exact ⟨j + 1, by omega, by go_num, HN.out.drew⟩
        case measure => simp [intOf]; omega
      · obtain rfl : j = U.size := by omega
        have hM2 : Cr.fold (U.data.toList.take U.size) = M := by rw [List.take_of_length_le (by rw [size_len]; exact Nat.le_refl _), HU.out, HEM.out]
        obtain ⟨r0, r1, r2, rf, c0, c1, c2, f2, -, hb, -⟩ := hS
        rw [hM2] at c2
        have rf0 := rf 0
        have rf1 := rf 1
        have rf2 := rf 2
        have HB := Lib.hid hb
        have MA := Lib.hid (fun (W : World) => marks_any M hM W)
        have k3 := (hb.cell (p := ⟨B, O + 3, none⟩) hBl).trans g3
        have hw : w.heap.size < wo.heap.size := World.block_lt_of_cell? _ _ r0
        have hbl2 : bc < wo.heap.size := World.block_lt_of_cell? _ _ c0
        clear hM2 rf
        have KP := Lib.hid (fun (W : World) (h : Below wo.heap.size wo W) => show W.cell? ⟨bc, 0, none⟩ = some (.string b) ∧ W.cell? ⟨bc, 1, none⟩ = some (.int .i64 v) ∧ W.cell? ⟨bc, 2, none⟩ = some (.int .i64 (M : Int)) ∧ W.cell? ⟨B, O + 3, none⟩ = some (.string m) ∧ W.cell? ⟨w.heap.size, 0, none⟩ = some (.string ⟨#[]⟩) ∧ W.cell? ⟨w.heap.size, 1, none⟩ = some (.int .i64 0) ∧ W.cell? ⟨w.heap.size, 2, none⟩ = some (.int .i64 0) ∧ W.frozen? ⟨w.heap.size, 0, none⟩ = false ∧ W.frozen? ⟨w.heap.size, 1, none⟩ = false ∧ W.frozen? ⟨w.heap.size, 2, none⟩ = false from
          ⟨(h.cell (p := ⟨bc, 0, none⟩) hbl2).trans c0, (h.cell (p := ⟨bc, 1, none⟩) hbl2).trans c1, (h.cell (p := ⟨bc, 2, none⟩) hbl2).trans c2, (h.cell (p := ⟨B, O + 3, none⟩) (Nat.lt_of_lt_of_le hBl hb.size)).trans k3, (h.cell (p := ⟨w.heap.size, 0, none⟩) hw).trans r0, (h.cell (p := ⟨w.heap.size, 1, none⟩) hw).trans r1, (h.cell (p := ⟨w.heap.size, 2, none⟩) hw).trans r2,
            (h.frozen (p := ⟨w.heap.size, 0, none⟩) hw).trans rf0, (h.frozen (p := ⟨w.heap.size, 1, none⟩) hw).trans rf1, (h.frozen (p := ⟨w.heap.size, 2, none⟩) hw).trans rf2⟩)
        have B0 : Below wo.heap.size wo wo := Below.refl _ _
        have hlt3 := hbc
        clear hb
        have KS := Lib.hid (fun (W : World) (h : W.cell? ⟨bc, 0, none⟩ = some (.string b) ∧ W.cell? ⟨bc, 1, none⟩ = some (.int .i64 v) ∧ W.cell? ⟨bc, 2, none⟩ = some (.int .i64 (M : Int)) ∧ W.cell? ⟨B, O + 3, none⟩ = some (.string m)) (x y z : Value) => keep_put3 (W := W) h (t := w.heap.size) (by omega) (by omega) x y z)
        cases ok with
        | false =>
          have HF := Lib.hid (fun (W : World) (h : Below w.heap.size w W) => show ReadGive [a, b, f, m] w (.returned (.tuple #[.agg #[.string b, .int .i64 v, .int .i64 (M : Int)], .bool false])) W from ⟨b, v, M, false, rfl, by rw [HLC.out, if_neg (fun h => by cases h.1), if_neg (by simp)], h⟩)
          obtain ⟨-, -, -, -, s0, s1, s2, -, -, -⟩ := KP.out _ B0.drew
          have q0 : (wo.setCell ⟨w.heap.size, 0, none⟩ (.string b)).cell? ⟨w.heap.size, 0, none⟩ = some (.string b) := World.cell?_setCell_same _ _ _ r0
          have q1 : ((wo.setCell ⟨w.heap.size, 0, none⟩ (.string b)).setCell ⟨w.heap.size, 1, none⟩ (.int .i64 v)).cell? ⟨w.heap.size, 1, none⟩ = some (.int .i64 v) := World.cell?_setCell_same _ _ _ ((World.cell?_setCell_other _ _ _ _ (fun e => by cases e)).trans r1)
          obtain ⟨-, -, q2⟩ := put3_cells r0 r1 r2 (.string b) (.int .i64 v) (.int .i64 (M : Int))
          have PB := put3_below (HB.out.trans (B0.drew.mono (Nat.le_of_lt hw))) (.string b) (.int .i64 v) (.int .i64 (M : Int))
          go_wp2_with fail
          refine wp_region_held_drew (S := fun W => W.cell? ⟨bc, 0, none⟩ = some (.string b) ∧ W.cell? ⟨bc, 1, none⟩ = some (.int .i64 v) ∧ W.cell? ⟨bc, 2, none⟩ = some (.int .i64 (M : Int)) ∧ W.cell? ⟨B, O + 3, none⟩ = some (.string m)) (by kernel_rfl) ⟨(KP.out _ B0.drew).1, (KP.out _ B0.drew).2.1, (KP.out _ B0.drew).2.2.1, (KP.out _ B0.drew).2.2.2.1⟩ (fun hHeld => ?_)
          refine wpAnyH_take (i := 0) (oi := ⟨some 55, _, _, _, _, _⟩) (v := .agg #[.string b, .int .i64 v, .int .i64 (M : Int)]) rfl (by kernel_rfl) (by kernel_rfl) (by kernel_rfl) (fun _ _ _ h => h) (Or.inl ⟨by rfl, ?y0⟩) (by assumption) ?r0
          case y0 =>
            intro W0 hSw
            (try dsimp only at hSw)
            go_simp
          refine wpAnyH_take (i := 1) (oi := ⟨some 56, _, _, _, _, _⟩) (v := .bool false) rfl (by kernel_rfl) (by kernel_rfl) (by kernel_rfl) (fun _ _ _ h => h) (Or.inl ⟨by rfl, ?y1⟩) (by assumption) ?r1
          case y1 =>
            intro W0 hSw
            (try dsimp only at hSw)
            go_simp
          refine wpAnyH_take (i := 2) (oi := ⟨some 57, _, _, _, _, _⟩) (v := .bool false) rfl (by kernel_rfl) (by kernel_rfl) (by kernel_rfl) (fun _ _ _ h => h) (Or.inl ⟨by rfl, ?y2⟩) (by assumption) ?r2
          case y2 =>
            intro W0 hSw
            (try dsimp only at hSw)
            go_simp
          refine wpAnyH_take (i := 3) (oi := ⟨some 58, _, _, _, _, _⟩) (v := undef) rfl (by kernel_rfl) (by kernel_rfl) (by kernel_rfl) (fun _ _ _ h => h) (Or.inr ⟨by kernel_rfl, rfl⟩) (by assumption) ?_
          refine wpAnyH_take (i := 4) (oi := ⟨some 59, _, _, _, _, _⟩) (v := undef) rfl (by kernel_rfl) (by kernel_rfl) (by kernel_rfl) (fun _ _ _ h => h) (Or.inr ⟨by kernel_rfl, rfl⟩) (by assumption) ?_
          refine wpAnyH_take (i := 5) (oi := ⟨some 60, _, _, _, _, _⟩) (v := undef) rfl (by kernel_rfl) (by kernel_rfl) (by kernel_rfl) (fun _ _ _ h => h) (Or.inr ⟨by kernel_rfl, rfl⟩) (by assumption) ?_
          refine wpAnyH_take (i := 6) (oi := ⟨some 61, _, _, _, _, _⟩) (v := undef) rfl (by kernel_rfl) (by kernel_rfl) (by kernel_rfl) (fun _ _ _ h => h) (Or.inr ⟨by kernel_rfl, rfl⟩) (by assumption) ?_
          refine wpAnyH_take (i := 7) (oi := ⟨some 62, _, _, _, _, _⟩) (v := undef) rfl (by kernel_rfl) (by kernel_rfl) (by kernel_rfl) (fun _ _ _ h => h) (Or.inr ⟨by kernel_rfl, rfl⟩) (by assumption) ?_
          refine wpAnyH_take (i := 8) (oi := ⟨some 63, _, _, _, _, _⟩) (v := undef) rfl (by kernel_rfl) (by kernel_rfl) (by kernel_rfl) (fun _ _ _ h => h) (Or.inr ⟨by kernel_rfl, rfl⟩) (by assumption) ?_
          refine wpAnyH_take (i := 9) (oi := ⟨some 64, _, _, _, _, _⟩) (v := undef) rfl (by kernel_rfl) (by kernel_rfl) (by kernel_rfl) (fun _ _ _ h => h) (Or.inr ⟨by kernel_rfl, rfl⟩) (by assumption) ?_
          refine wpAnyH_take (i := 10) (oi := ⟨some 65, _, _, _, _, _⟩) (v := .bool false) rfl (by kernel_rfl) (by kernel_rfl) (by kernel_rfl) (fun _ _ _ h => h) (Or.inl ⟨by rfl, ?y10⟩) (by assumption) ?r10
          case y10 =>
            intro W0 hSw
            (try dsimp only at hSw)
            go_simp
          refine wpAnyH_ready (rs := [11]) (by kernel_rfl) (by simp) ?_
          refine AllReadyH.cons (o := ⟨none, _, _, _, _, _⟩) rfl (fun K hK => ?_) AllReadyH.nil
          go_simp
          refine hK.out _ _ ?hS (fun hHeld2 => ?_)
          case hS => exact KS.out _ (by assumption) _ _ _
          clear hK K
          refine wpAnyH_take (i := 12) (oi := ⟨some 3, _, _, _, _, _⟩) (v := .bool false) rfl (by kernel_rfl) (by kernel_rfl) (by kernel_rfl) (fun _ _ _ h => h) (Or.inl ⟨by rfl, ?y12⟩) (by assumption) ?r12
          case y12 =>
            intro W0 hSw
            (try dsimp only at hSw)
            go_simp
          refine wpAnyH_done (by kernel_rfl) ?_ _
          go_wp2
          exact bodyPost_ret (v := .tuple #[.agg #[.string b, .int .i64 v, .int .i64 (M : Int)], .bool false]) (by simp [results, Tryz.results37, go_sem, q0, q1, q2]) rfl (HF.out _ PB)
        | true =>
          have HT := Lib.hid (fun (W : World) (h : Below w.heap.size w W) => show ReadGive [a, b, f, m] w (.returned (.tuple #[.agg #[.string b, .int .i64 v, .int .i64 (M : Int)], .bool (mword M == m.toList)])) W from ⟨b, v, M, mword M == m.toList, rfl, by rw [HLC.out, ByteArray.toList_eq]; simp, h⟩)
          have HPB := Lib.hid (fun (W : World) (h : Below wo.heap.size wo W) => put3_below (HB.out.trans (h.mono (Nat.le_of_lt hw))) (.string b) (.int .i64 v) (.int .i64 (M : Int)))
          go_wp2_with fail
          go_region_held3 (fun W => W.cell? ⟨bc, 0, none⟩ = some (.string b) ∧ W.cell? ⟨bc, 1, none⟩ = some (.int .i64 v) ∧ W.cell? ⟨bc, 2, none⟩ = some (.int .i64 (M : Int)) ∧ W.cell? ⟨B, O + 3, none⟩ = some (.string m)) (first | exact ⟨(KP.out _ B0).1, (KP.out _ B0).2.1, (KP.out _ B0).2.2.1, (KP.out _ B0).2.2.2.1⟩ | exact ⟨(KP.out _ B0.drew).1, (KP.out _ B0.drew).2.1, (KP.out _ B0.drew).2.2.1, (KP.out _ B0.drew).2.2.2.1⟩ | exact ⟨(KP.out _ B6).1, (KP.out _ B6).2.1, (KP.out _ B6).2.2.1, (KP.out _ B6).2.2.2.1⟩ | exact KS.out _ (by assumption) _ _ _) (first | (go_at_call 34; (with_reducible refine Calls.mono (MA.out _) ?_); rintro e w6 ⟨rfl, hb6⟩; have B6 : Below wo.heap.size wo w6 := (by first | exact B0.trans (hb6.mono (Nat.le_refl _)) | exact B0.drew.trans (hb6.mono (Nat.le_refl _))); obtain ⟨-, -, -, -, s0, s1, s2, z0, z1, z2⟩ := KP.out _ B6; obtain ⟨p0, p1, p2⟩ := put3_cells s0 s1 s2 (.string b) (.int .i64 v) (.int .i64 (M : Int))))
          go_wp2
          exact bodyPost_ret (v := .tuple #[.agg #[.string b, .int .i64 v, .int .i64 (M : Int)], .bool (mword M == m.toList)]) (by simp [results, Tryz.results37, go_sem, p0, p1, p2]) rfl (HT.out _ (HPB.out _ B6))
end Go.Proofs.YtcghhagnibabeaaGreatDoor
