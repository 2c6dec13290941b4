/-
  MERGED (mergek.py): the texts S2, S3, S4.
-/
import Derived.Test.YtflcdkibjakciaaGreatDoorM18
import Derived.Maps.OwnIn

namespace Go.Proofs.YtflcdkibjakciaaGreatDoor
open Go.RowKit Go.Shelf Go.Sort

theorem trim_any (t : ByteArray) (o : Nat) (ho : Lib.indexByte t.data.toList 10 = ((o : Nat) : Int)) (hol : o < t.size) (hsz : t.size ≤ 16384) (W : World) :
    Calls Tryz.prog 80 #[.string (t.extract 0 (o + 1)), .string ⟨#[10]⟩] W fun e w' => (∃ l0 : ByteArray, l0.data.toList = t.data.toList.take o ∧ l0.size ≤ 16384 ∧ e = .returned (.string l0)) ∧ w' = W := by
  have hx : (t.extract 0 (o + 1)).data.toList = t.data.toList.take (o + 1) := Lib.extract_from_zero t (o + 1)
  have hlt : o < t.data.toList.length := by rw [size_len]; exact hol
  have h10 : t.data.toList[o]? = some 10 := (Lib.indexByte_some ho).1
  have hx2 : (t.extract 0 (o + 1)).data.toList = t.data.toList.take o ++ [10] := by
    rw [hx, List.take_add_one, h10]; rfl
  have hz : (t.extract 0 (o + 1)).size ≤ 16384 := by
    rw [← size_len, hx, List.length_take]; rw [size_len]; omega
  refine (Tryz.strings_TrimSuffix (t.extract 0 (o + 1)) ⟨#[10]⟩ W (by omega)).mono fun e w' ⟨he, hw⟩ => ⟨⟨_, ?_, ?_, he⟩, hw⟩
  · show Lib.trimSuffix (t.extract 0 (o + 1)).data.toList [10] = _
    rw [hx2]
    unfold Lib.trimSuffix Lib.hasSuffix
    rw [if_pos (List.isSuffixOf_iff_suffix.2 (List.suffix_append _ _))]
    simp
  · rw [← size_len]
    show (Lib.trimSuffix (t.extract 0 (o + 1)).data.toList [10]).length ≤ _
    refine Nat.le_trans (Lib.trimSuffix_le _ _) ?_
    rw [size_len]; exact hz

theorem cut35_any (l0 : ByteArray) (hsz : l0.size ≤ 16384) (W : World) (hE : Env W) :
    Calls Tryz.prog 79 #[.string l0, .string ⟨#[35]⟩] W fun e w' => (∃ (l9 x : ByteArray) (y : Bool), l9.data.toList = l0.data.toList.takeWhile (· != 35) ∧ l9.size ≤ 16384 ∧ e = .returned (.tuple #[.string l9, .string x, .bool y])) ∧ ∃ q, w' = W.drewN q := by
  obtain ⟨m, hm⟩ := hE.ml
  refine (Tryz.strings_Cut l0 ⟨#[35]⟩ m W (by omega) hm).mono fun e w' ⟨he, hw⟩ => ⟨⟨_, _, _, ?_, ?_, he⟩, hw⟩
  · exact Wo.cut_one l0.data.toList 35
  · rw [← size_len]
    have e : (Lib.cut l0.data.toList [35]).1 = l0.data.toList.takeWhile (· != 35) := Wo.cut_one l0.data.toList 35
    show (Lib.cut l0.data.toList [35]).1.length ≤ _
    rw [e]
    refine Nat.le_trans (List.takeWhile_sublist _).length_le ?_
    rw [size_len]; exact hsz

/-- Between two rounds: t is left; the lines that have come lie in the variable's box. -/
structure LI (s : ByteArray) (w0 : World) (t : ByteArray) (W : World) : Prop where
  st : ∃ v dn H, RS s w0 W t v dn H ∧ OwnR SH W 56 (w0.heap.size + 2) v H ∧ (∀ k (hk : k < H.length) x, H[k].p = some x → w0.heap.size + 2 ≤ x.block) ∧ W.cell? ⟨w0.heap.size, 0, none⟩ = some v
  fz : W.frozen? ⟨w0.heap.size, 0, none⟩ = false
  sz : t.size ≤ 16384
  hp : w0.heap.size + 2 ≤ W.heap.size

theorem RS.world {s : ByteArray} {w wr w' : World} {t : ByteArray} {v : Value} {dn : List (List UInt8)} {H : List Hd} (h : RS s w wr t v dn H) (hO : OwnR SH w' 56 w.heap.size v H) (hz : wr.heap.size ≤ w'.heap.size)
    (hR : ∀ k (hk : k < H.length) (L : List ByteArray), Recs SB wr H[k].p L → Recs SB w' H[k].p L) (hB : Below w.heap.size w w') : RS s w w' t v dn H :=
  ⟨h.ln, h.nl, hO, h.hl, fun k hk hk' => ⟨(h.rows k hk hk').1, hR k hk _ (h.rows k hk hk').2.1, (h.rows k hk hk').2.2⟩, fun k hk x e => ⟨(h.apart k hk x e).1, Nat.lt_of_lt_of_le (h.apart k hk x e).2 hz⟩, hB⟩

theorem LI.drew {s : ByteArray} {w0 : World} {t : ByteArray} {W : World} (h : LI s w0 t W) : LI s w0 t W.drew := by
  obtain ⟨⟨v, dn, H, hr, hO, hk, hc⟩, hf, hs, hp⟩ := h
  exact ⟨⟨v, dn, H, hr.world hr.own.drew (Nat.le_refl _) (fun k hk L h => h.drew) ⟨hr.below.os, hr.below.tape, hr.below.output, hr.below.size, hr.below.block⟩, hO.drew, hk, hc⟩, hf, hs, hp⟩

theorem setCell_block (W : World) (b i k : Nat) (u : Value) (h : k ≠ b) : (W.setCell ⟨b, i, none⟩ u).heap[k]? = W.heap[k]? := by
  rw [setCell_eq]; simp only [mapBlock, Array.getElem?_modify, if_neg (Ne.symm h)]

theorem setCell_size (W : World) (b i : Nat) (u : Value) : (W.setCell ⟨b, i, none⟩ u).heap.size = W.heap.size := by
  rw [setCell_eq]; simp [mapBlock]

theorem Recs.aside {W : World} {b i : Nat} {u : Value} {p : Option Addr} {L : List ByteArray} (h : Recs SB W p L) (hn : ∀ x, p = some x → x.block ≠ b) : Recs SB (W.setCell ⟨b, i, none⟩ u) p L := by
  refine ⟨h.1, ?_⟩
  rcases h.2 with e | ⟨g, off, e, hl, hc⟩
  · exact .inl e
  · refine .inr ⟨g, off, e, by rw [setCell_size]; exact hl, fun n u hu => ?_⟩
    exact (World.cell?_of_block (a := ⟨g, off + n, none⟩) (setCell_block W b i g _ (hn _ e))).trans (hc n u hu)

/-- The iterator writes its own cell. -/
theorem LI.set {s : ByteArray} {w0 : World} {t : ByteArray} {W : World} (h : LI s w0 t W) (u : Value) : LI s w0 t (W.setCell ⟨w0.heap.size + 1, 0, none⟩ u) := by
  obtain ⟨⟨v, dn, H, hr, hO, hk, hc⟩, hf, hs, hp⟩ := h
  have hne : v.ownBlock ≠ some (w0.heap.size + 1) := fun e => by have := (hO.lt e).1; omega
  refine ⟨⟨v, dn, H, hr.world (hr.own.setOther hne u) (by rw [setCell_size]; exact Nat.le_refl _) (fun k hk2 L h => h.aside fun x e => by have := hk k hk2 x e; omega) (hr.below.setCell (p := ⟨w0.heap.size + 1, 0, none⟩) (by show _ ≤ w0.heap.size + 1; omega) u), hO.setOther hne u, hk, ?_⟩, ?_, hs, by rw [setCell_size]; exact hp⟩
  · rw [World.cell?_of_block (w := W) (setCell_block _ _ _ _ _ (by show w0.heap.size ≠ w0.heap.size + 1; omega))]; exact hc
  · rw [World.frozen?_setCell]; exact hf

/-- The law's own book-keeping. -/
theorem LI.own {s : ByteArray} {w0 : World} : OwnFrom (w0.heap.size + 2) (LI s w0) := by
  rintro t W W' row ⟨⟨v, dn, H, hr, hO, hk, hc⟩, hf, hs, hp⟩ hg hrow
  have hrow2 : ∀ r, row = some r → ∃ o : Obj, W.heap[r]? = some o ∧ o.isCells = false := fun r e => (hrow r e).2
  have hB : ∀ {B : Nat} {v : Value} {H : List Hd}, OwnR SH W 56 B v H → OwnR SH W' 56 B v H := fun {B v H} h => by
    rcases h.2 with ⟨a, b⟩ | ⟨g, cap, cur, h1, h2, h3, h4⟩
    · exact ⟨h.1, .inl ⟨a, b⟩⟩
    · exact ⟨h.1, .inr ⟨g, cap, cur, h1, h2, (grownBy_keeps_cells hg hrow2 h3 rfl).trans h3, h4⟩⟩
  refine ⟨⟨v, dn, H, hr.world (hB hr.own) hg.size (fun k hk2 L h => ⟨h.1, ?_⟩) (hr.below.grown hg hr.below.size (fun k e => by have := (hrow k e).1; omega)), hB hO, hk, cell_kept hc hg hrow2⟩, (frozen_kept hc hg hrow2).trans hf, hs, Nat.le_trans hp hg.size⟩
  rcases h.2 with e | ⟨g, off, e, hl, hcc⟩
  · exact .inl e
  · exact .inr ⟨g, off, e, Nat.lt_of_lt_of_le hl hg.size, fun n u hu => cell_kept (hcc n u hu) hg hrow2⟩
end Go.Proofs.YtflcdkibjakciaaGreatDoor

namespace Go.Proofs.YtflcdkibjakciaaGreatDoor
open Go.RowKit Go.Shelf Go.Sort

def plN (x : Nat) : Bool := decide (x = 10) || (decide (32 ≤ x) && decide (x ≤ 126))

theorem plN_high (x : Nat) (h : 128 ≤ x) : (!plN x) = true := by
  simp only [plN, Bool.not_eq_true', Bool.or_eq_false_iff, Bool.and_eq_false_iff, decide_eq_false_iff_not]; omega

theorem plN_plainB (c : UInt8) : plN c.toNat = Wo.plainB c := by
  rcases plain_kinds c with ⟨h, p⟩ | ⟨h, h2, p⟩ | ⟨h, h2, p⟩ | ⟨h, p⟩ <;> rw [p] <;> simp only [plN, Bool.or_eq_true, Bool.and_eq_true, decide_eq_true_eq, Bool.or_eq_false_iff, Bool.and_eq_false_iff, decide_eq_false_iff_not] <;> omega

set_option maxRecDepth 100000 in
theorem plain_any (x : Nat) (w : World) : Calls Tryz.prog 77 #[.int .i32 x] w fun e w' => e = .returned (.bool (plN x)) ∧ w' = w := by
  by_cases h1 : x = 10
  · have HN := Lib.hid (show plN x = true by simp only [plN, Bool.or_eq_true, Bool.and_eq_true, decide_eq_true_eq]; omega)
    have h1' : ((x : Int) == 10) = true := by rw [h1]; rfl
    clear h1
    go_enter Tryz.func77, Tryz.ntmps77
    go_wp2
    go_ret
    exact ⟨ret_b HN.out.symm, rfl⟩
  have h1' : ((x : Int) == 10) = false := beq_eq_false_iff_ne.2 (by omega)
  by_cases h2 : 32 ≤ x
  · have h2' : (32 : Int) ≤ (x : Int) := by omega
    by_cases h3 : x ≤ 126
    · have HN := Lib.hid (show plN x = true by simp only [plN, Bool.or_eq_true, Bool.and_eq_true, decide_eq_true_eq]; omega)
      have h3' : (x : Int) ≤ 126 := by omega
      clear h1 h2 h3
      go_enter Tryz.func77, Tryz.ntmps77
      go_wp2
      go_ret
      exact ⟨ret_b HN.out.symm, rfl⟩
    · have HN := Lib.hid (show plN x = false by simp only [plN, Bool.or_eq_false_iff, Bool.and_eq_false_iff, decide_eq_false_iff_not]; omega)
      have h3' : ¬ (x : Int) ≤ 126 := by omega
      clear h1 h2 h3
      go_enter Tryz.func77, Tryz.ntmps77
      go_wp2
      go_ret
      exact ⟨ret_b HN.out.symm, rfl⟩
  · have HN := Lib.hid (show plN x = false by simp only [plN, Bool.or_eq_false_iff, Bool.and_eq_false_iff, decide_eq_false_iff_not]; omega)
    have h2' : ¬ (32 : Int) ≤ (x : Int) := by omega
    clear h1 h2
    go_enter Tryz.func77, Tryz.ntmps77
    go_wp2
    go_ret
    exact ⟨ret_b HN.out.symm, rfl⟩

theorem nplain_any (x : Nat) (w : World) : Calls Tryz.prog 76 #[.int .i32 x] w fun e w' => e = .returned (.bool (!plN x)) ∧ w' = w := by
  have HP := Lib.hid (plain_any x w)
  generalize plN x = bb at *
  go_enter Tryz.func76, Tryz.ntmps76
  go_wp2_with (first | (go_at_call 77; refine Calls.mono HP.out ?_; rintro e w1 ⟨rfl, hw⟩; obtain rfl := hw.symm))
  go_ret
  exact ⟨rfl, rfl⟩

theorem enters_nplain : ∀ args w, (callFunc 76 args).run Tryz.prog w = .ok (.enter 76 args) w := enters_of Tryz.func76 (by kernel_rfl) rfl

theorem notplain_any (s : ByteArray) (w : World) : Calls Tryz.prog 75 #[.string s, .func (.func 76) #[] #[]] w fun e w' => e = .returned (.bool (!s.data.toList.all Wo.plainB)) ∧ Below w.heap.size w w' := by
  refine (Tryz.strings_ContainsFunc_runes 76 #[] enters_nplain (fun x => !plN x) s w (fun W x _ _ => (nplain_any x W).mono fun _ _ ⟨he, hw⟩ => ⟨he, 0, hw⟩)).mono fun e w' ⟨he, hb⟩ => ⟨?_, hb⟩
  rw [he, Wo.contains_any _ plN_high]
  congr 2
  rw [List.not_all_eq_any_not]
  congr 1
  funext c
  rw [plN_plainB]
end Go.Proofs.YtflcdkibjakciaaGreatDoor

namespace Go.Proofs.YtflcdkibjakciaaGreatDoor
open Go.RowKit Go.Shelf Go.Sort
attribute [local go_sem] Oper.semAt_some
attribute [-go_sem] Builtin.append_

def wA2 (w : World) : World := (w.alloc (.cells #[.slice none 0 0] 67))

theorem lines_any (s : ByteArray) (w : World) : Calls Tryz.prog 78 #[.string s] w fun e w' => e = .returned (.func (.func 111) #[] #[.pointer (some ⟨w.heap.size, 0, none⟩)]) ∧ w' = w.alloc (.cells #[.string s] 9) := by
  go_enter Tryz.func78, Tryz.ntmps78
  go_wp2
  go_ret
  exact ⟨rfl, rfl⟩

theorem box_new (w : World) (v : Value) (T : TypeId) : (w.alloc (.cells #[v] T)).cell? ⟨w.heap.size, 0, none⟩ = some v ∧ (w.alloc (.cells #[v] T)).frozen? ⟨w.heap.size, 0, none⟩ = false := by
  have h := World.alloc_heap_new w (.cells #[v] T)
  exact ⟨by simp only [World.cell?, h]; rfl, by simp only [World.frozen?, h]; rfl⟩

/-- What the round keeps of the library's Split. -/
def SpGive (l9 : ByteArray) (W2 wB : World) (v : Value) (e : Ending) (w4 : World) : Prop :=
  ∃ ws : List ByteArray, ws.map (·.data.toList) = Wo.pcs 32 [] l9.data.toList ∧ ws.length ≤ l9.size + 1 ∧ e = .returned (.slice (some ⟨W2.heap.size, 0, none⟩) ws.length ws.length) ∧ Hid (w4.heap[W2.heap.size]? = some (.cells (SB.flat ws).toArray 9)) ∧
    w4.heap.size = W2.heap.size + 1 ∧ Hid (Below W2.heap.size W2 w4) ∧ Hid (KeepsOthers W2 w4) ∧ w4.cell? ⟨wB.heap.size, 0, none⟩ = some v

theorem SpGive.of {l9 : ByteArray} {W2 wB : World} {v : Value} {e : Ending} {w4 : World} (h : PcsGive l9 W2.drew e w4) (hc : W2.cell? ⟨wB.heap.size, 0, none⟩ = some v) (hz : wB.heap.size < W2.heap.size) : SpGive l9 W2 wB v e w4 := by
  obtain ⟨ws, h1, h2, h3, h4⟩ := h
  have hb : Below W2.heap.size W2 w4 := by
    rw [h4]; exact (Below.refl W2.heap.size W2).drew.alloc (Nat.le_refl _) _
  refine ⟨ws, h1, h2, h3, Lib.hid ?_, by rw [h4, World.size_alloc]; rfl, Lib.hid hb, Lib.hid ?_, (hb.cell (p := ⟨wB.heap.size, 0, none⟩) hz).trans hc⟩
  · rw [h4]; exact World.alloc_heap_new W2.drew _
  · rw [h4]; exact (KeepsOthers.drew W2).trans (KeepsOthers.alloc _ _)

def DlGive (w4 wB : World) (B : Nat) (v : Value) (ws : List ByteArray) (e : Ending) (w5 : World) : Prop :=
  e = .returned (.slice (some ⟨B, 0, none⟩) (ws.filter neB).length ws.length) ∧ Hid (Recs SB w5 (some ⟨B, 0, none⟩) (ws.filter neB)) ∧ Hid (Below B w4 w5) ∧ Hid (KeepsOthers w4 w5) ∧ w5.cell? ⟨wB.heap.size, 0, none⟩ = some v ∧ w4.heap.size ≤ w5.heap.size

theorem DlGive.of {w4 wB : World} {B : Nat} {v : Value} {ws : List ByteArray} {args : Array Value} {f : Nat} (h : Calls Tryz.prog f args w4 (DelGive w4 B ws)) (hc : w4.cell? ⟨wB.heap.size, 0, none⟩ = some v) (hz : wB.heap.size < B) : Calls Tryz.prog f args w4 (DlGive w4 wB B v ws) :=
  h.mono fun _ _ ⟨h1, h2, h3, h4⟩ => ⟨h1, Lib.hid h2, Lib.hid h3, Lib.hid h4, (h3.cell (p := ⟨wB.heap.size, 0, none⟩) hz).trans hc, h3.size⟩

theorem frozen_lit {W : World} {B : Nat} {c : Array Value} {T : TypeId} (h : W.heap[B]? = some (.cells c T)) {n : Nat} : ∀ j, j < n → W.frozen? ⟨B, j, none⟩ = false := fun j _ => by
  simp only [World.frozen?, h]; simp

/-- append of one line, as it is run. -/
theorem app_run {w5 : World} {B : Nat} {v : Value} {H : List Hd} (y : Hd) (hO : OwnR SH w5 56 B v H) (hB : B ≤ w5.heap.size) (hn : H.length < 1073741824) :
    ∃ v6 w6, (Builtin.append_ #[67, 67] 67 #[v, .slice (some ⟨w5.heap.size, 0, none⟩) 1 1]).run Tryz.prog (w5.alloc (.cells #[.slice y.p y.n y.c] 56)) = .ok v6 w6 ∧
      OwnR SH w6 56 B v6 (H ++ [y]) ∧ Appends w5 w6 B (w5.heap.size + 1) v v6 ∧ KeepsOthers w5 w6 := by
  obtain ⟨i0, z, e1, e2, e3, e4, e5⟩ := el_row.ex
  have hown : (w5.alloc (.cells #[.slice y.p y.n y.c] 56)).ownsRow B 56 SH.k v H.length (SH.flat H) := World.ownsRow.alloc hO _
  obtain ⟨v6, w6, hr, h2, h3, h4, h5⟩ := run_append_own_at (P := Tryz.prog) (w5.alloc (.cells #[.slice y.p y.n y.c] 56)) B 67 67 56 i0 z SH.k 24 el_row.ts e1 e2 e3 e4 e5 SH.pos v H.length (SH.flat H) hown ⟨w5.heap.size, 0, none⟩ 1 1 (SH.cells y) (by rw [SH.len]; omega) (by
    intro j u hu
    rw [Go.WideShapes.add_plain, Nat.zero_add, World.cell?_alloc_new]
    simpa [SH] using hu) (SH.one y) (by unfold maxLen; omega) (by omega) (by simp; omega)
  have hz := h3.size
  rw [World.size_alloc] at hz h5
  have hal := (Below.refl w5.heap.size w5).alloc (Nat.le_refl _) (.cells #[.slice y.p y.n y.c] 56)
  have far : ∀ k, k < w5.heap.size → v.ownBlock ≠ some k → w6.heap[k]? = w5.heap[k]? := fun k hk hne => by
    rw [h3.block k (by rw [World.size_alloc]; omega) (fun e => hne e.symm)]
    exact hal.block k hk
  refine ⟨v6, w6, hr, ?_, ⟨(((Below.refl B w5).alloc hB _).grown h3 (by simp; omega) fun k hk => (World.ownsRow.lt hO k hk).1), by omega, far, h5⟩, ⟨by omega, fun k o hk ho => ?_⟩⟩
  · unfold OwnR
    rw [List.length_append, SH.flat_append, SH.flat_single]
    exact h2
  · have hlt := (Array.getElem?_eq_some_iff.1 hk).1
    rw [far k hlt ?_]
    · exact hk
    · intro e
      rcases hO.2 with ⟨a, b⟩ | ⟨g, cap, cur, g1, g2, g3, g4⟩
      · rw [a] at e; cases e
      · rw [g1] at e
        have : g = k := by simpa [Value.ownBlock] using e
        subst this
        rw [g3] at hk; cases hk; cases ho

theorem OwnR.two {w2 w4 w5 : World} {B : Nat} {v : Value} {H : List Hd} (h : OwnR SH w2 56 B v H) (h1 : Below w2.heap.size w2 w4) (h2 : Below w2.heap.size w4 w5) : OwnR SH w5 56 B v H := h.below (h1.trans h2)

theorem OwnR.slc {w : World} {B : Nat} {v : Value} {H : List Hd} {y : Hd} (h : OwnR SH w 56 B v (H ++ [y])) : ∃ g c, v = .slice (some ⟨g, 0, none⟩) (H.length + 1) c := by
  rcases h.2 with ⟨a, b⟩ | ⟨g, cap, cur, g1, -⟩
  · simp at b
  · exact ⟨g, cap, by rw [g1, List.length_append]; rfl⟩

/-- One line more. -/
theorem LI.next {s t l9 : ByteArray} {wB W2 w5 w6 : World} {v v6 : Value} {dn : List (List UInt8)} {H : List Hd} {ws : List ByteArray} {o : Nat} (HR : RS s wB W2 t v dn H)
    (HKX : ∀ k (hk : k < H.length) x, H[k].p = some x → wB.heap.size + 2 ≤ x.block) (ho : Lib.indexByte t.data.toList 10 = (o : Int)) (hsz : t.size ≤ 16384) (hpz : wB.heap.size + 2 ≤ W2.heap.size)
    (hws : ws.map (·.data.toList) = Wo.pcs 32 [] l9.data.toList) (HL9 : l9.data.toList = (t.data.toList.take o).takeWhile (· != 35)) (hR5 : Recs SB w5 (some ⟨W2.heap.size, 0, none⟩) (ws.filter neB))
    (hb25 : Below W2.heap.size W2 w5) (h45 : W2.heap.size + 1 ≤ w5.heap.size) (HA6 : Appends w5 w6 (wB.heap.size + 2) (w5.heap.size + 1) v v6)
    (HO6 : OwnR SH w6 56 (wB.heap.size + 2) v6 (H ++ [⟨some ⟨W2.heap.size, 0, none⟩, (ws.filter neB).length, ws.length⟩])) (hf6 : w6.frozen? ⟨wB.heap.size, 0, none⟩ = false) (hc6 : w6.cell? ⟨wB.heap.size, 0, none⟩ = some v) :
    LI s wB (restOf t o) (w6.setCell ⟨wB.heap.size, 0, none⟩ v6) := by
  have hfl : (ws.filter neB).length ≤ ws.length := List.length_filter_le _ _
  have hwd := words_of ws (t.data.toList.take o) (by rw [hws, HL9])
  have hrest : (restOf t o).data.toList = t.data.toList.drop (o + 1) := by
    unfold restOf
    rw [Lib.extract_data, List.take_of_length_le (by rw [List.length_drop, size_len]; exact Nat.le_refl _)]
  have hB6 : Below wB.heap.size wB w6 := HR.below.trans ((hb25.mono HR.below.size).trans (HA6.below.mono (by omega)))
  have N := HR.next (t2 := restOf t o) ho hrest hb25 hwd ⟨rfl, hR5, (fun h => by cases h), hfl⟩ (fun x e => by cases e; exact ⟨Nat.le_refl _, by show W2.heap.size < _; omega⟩) (Nat.le_succ _) (HO6.mono (by omega)) HA6 hB6
  have hne6 : v6.ownBlock ≠ some wB.heap.size := fun e => by have := (HO6.lt e).1; omega
  have hk6 : ∀ k (hk : k < (H ++ [(⟨some ⟨W2.heap.size, 0, none⟩, (ws.filter neB).length, ws.length⟩ : Hd)]).length) x, (H ++ [(⟨some ⟨W2.heap.size, 0, none⟩, (ws.filter neB).length, ws.length⟩ : Hd)])[k].p = some x → wB.heap.size + 2 ≤ x.block := by
    intro k hk x e
    by_cases hlt : k < H.length
    · rw [List.getElem_append_left hlt] at e
      exact HKX k hlt x e
    · rw [List.getElem_append_right (by omega)] at e
      simp only [List.getElem_singleton] at e
      cases e
      exact hpz
  refine ⟨⟨v6, _, _, N.world (N.own.setOther hne6 v6) (by rw [setCell_size]; exact Nat.le_refl _) (fun k hk2 L h => h.aside fun x e => by have := hk6 k hk2 x e; omega) (hB6.setCell (p := ⟨wB.heap.size, 0, none⟩) (Nat.le_refl _) v6), HO6.setOther hne6 v6, hk6, World.cell?_setCell_same' _ _ _ (by rw [hc6]; rfl)⟩, by rw [World.frozen?_setCell]; exact hf6, ?_, ?_⟩
  · have h1 := size_len (restOf t o)
    rw [hrest, List.length_drop, size_len] at h1
    omega
  · rw [setCell_size]
    have h1 := hb25.size
    have h2 := HA6.size
    omega

theorem LI.fin {s : ByteArray} {w wB W : World} {t : ByteArray} {v : Value} (h : LI s wB t W) (hc : W.cell? ⟨wB.heap.size, 0, none⟩ = some v) (ht : t.data.toList = []) (hok : Wo.sErr s.data.toList = 0) (hb : Below w.heap.size w wB) :
    SplitGive s w (.returned (.tuple #[v, .int .i64 0])) W := by
  obtain ⟨⟨v2, dn, H, hr, hO, hk, hc2⟩, hf, hs2, hp⟩ := h
  rw [hc] at hc2
  cases hc2
  obtain ⟨p, c, rfl, hn, -, -, -, hrec⟩ := hr.own.cut rfl
  have e1 : Wo.lns s.data.toList = dn := by rw [hr.ln, ht]; simp [Wo.lns_nil]
  have e2 : sLines s = dn.map fun l => (Wo.wds l).map bs := by unfold sLines Wo.sList; rw [if_pos hok, e1, List.map_map]; rfl
  have e3 : (sLines s).length = H.length := by rw [e2, List.length_map, hr.hl]
  refine ⟨p, c, by rw [e3, hok], ⟨H, e3.symm, hrec, fun k hk hk' => ?_⟩, fun h => (hn h).1, hb.trans (hr.below.mono hb.size)⟩
  have := hr.rows k hk (by rw [← hr.hl]; exact hk)
  simpa [e2] using this

set_option maxRecDepth 100000 in
set_option maxHeartbeats 8000000 in
theorem split_good (s : ByteArray) (w : World) (hE : Env w) (hs : s.size ≤ 16384) (hc4 : ¬ 400 < s.data.toList.count 10) (hse : ¬ s.toList = []) (hla : s.data.toList.getLast? = some 10)
    (hpl : s.data.toList.all Wo.plainB = true) : Calls Tryz.prog 42 #[.string s] w (SplitGive s w) := by
  have g1 : ¬ (16384 : Int) < (s.size : Int) := by omega
  have C1 := Lib.hid (fun (W : World) => Tryz.strings_Count_one s 10 W)
  obtain ⟨cn, ecn⟩ : ∃ n : Nat, Lib.countByte s.data.toList 10 = n := ⟨_, rfl⟩
  have ecn' : s.data.toList.count 10 = cn := ecn
  rw [ecn] at C1
  have g2 : ¬ (400 : Int) < (cn : Int) := by omega
  have h1 : s.toList.isEmpty = false := by cases h : s.toList with | nil => exact absurd h hse | cons a b => rfl
  have C2 := Lib.hid (fun (W : World) => Tryz.strings_HasSuffix s ⟨#[10]⟩ W (by omega))
  have e2 : Lib.hasSuffix s.data.toList (⟨#[10]⟩ : ByteArray).data.toList = true := by
    show Lib.hasSuffix s.data.toList [10] = true
    unfold Lib.hasSuffix
    rw [List.isSuffixOf_iff_suffix]
    obtain ⟨i, hi⟩ := List.getLast?_eq_some_iff.1 hla
    rw [hi]; exact List.suffix_append _ _
  rw [e2] at C2
  have C3 := Lib.hid (fun (W : World) => notplain_any s W)
  rw [hpl, Bool.not_true] at C3
  have HLA := Lib.hid hla
  have HPL := Lib.hid hpl
  have HC4 := Lib.hid hc4
  have HEN := Lib.hid hE
  clear hla hpl hc4 hE e2 ecn ecn'
  refine (callsIn_wide (n := 5)).1 ?_
  refine callsIn_of_wp_marks Tryz.func42 rfl trivial ?_ rfl
  simp only [Tryz.ntmps42, List.size_toArray, List.length_cons, List.length_nil, Nat.reduceAdd, Nat.reduceSub, Array.replicate_succ, Array.replicate_zero, List.push_toArray, List.append_toArray, List.nil_append, List.cons_append]
  gi_wp2_with (first
    | (refine ⟨trivial, ?_⟩; gi_at_call 14; refine (callsIn_wide.2 (C1.out _)).mono ?_; rintro e w1 ⟨rfl, hw⟩; obtain rfl := hw.symm)
    | (refine ⟨trivial, ?_⟩; gi_at_call 74; refine (callsIn_wide.2 (C2.out _)).mono ?_; rintro e w1 ⟨rfl, hw⟩; obtain rfl := hw.symm)
    | (refine ⟨trivial, ?_⟩; gi_at_call 75; refine (callsIn_wide.2 (C3.out _)).mono ?_; rintro e wB ⟨rfl, hb⟩)
    | (refine ⟨trivial, ?_⟩; gi_at_call 78; refine (callsIn_wide.2 (lines_any s _)).mono ?_; rintro e w3 ⟨rfl, hw3⟩))
  have hz0 : ((wB.alloc (.cells #[.slice none 0 0] 67)).alloc (.cells #[.string s] 9)).heap.size = wB.heap.size + 2 := by rw [World.size_alloc, World.size_alloc]
  have hE2 := Lib.hid (HEN.out.below hb)
  refine wpIn_lines (n := 5) (by omega) (wB.heap.size + 1) s rfl rfl (by rw [hz0]; omega) ?hc ?hf (LI s wB) (by rw [hz0]; exact LI.own) (fun _ _ h => h.drew) (fun _ _ v h => h.set v) (fun t W h => ⟨h.sz, ?hnl⟩) ?h0
    (fun x => { tmps := #[.string s, undef, .slice none 0 0, .int .i64 0, .pointer (some ⟨wB.heap.size, 0, none⟩), .string x, .string s, .int .i64 (s.size : Int), .bool false, .bool false, .string s, .int .i64 (cn : Int), .bool (decide ((400 : Int) < (cn : Int))), .bool (decide ((400 : Int) < (cn : Int))), .string s, .bool true, .bool true, .string s, .bool true, .bool false, .bool false, .bool false, .string s, .bool false, .bool false, .string s, .func (.func 111) #[] #[.pointer (some ⟨wB.heap.size + 1, 0, none⟩)], .string x, undef, undef, undef, undef, undef, undef, undef, undef, undef, undef, undef, undef, undef, undef], defers := [] }) ?assign ?body ?done
  case hc => rw [← World.size_alloc wB (.cells #[.slice none 0 0] 67)]; exact (box_new _ _ _).1
  case hf => rw [← World.size_alloc wB (.cells #[.slice none 0 0] 67)]; exact (box_new _ _ _).2
  case hnl =>
    obtain ⟨v, dn, H, hr, -⟩ := h.st
    exact hr.nl
  case h0 =>
    have hcn := box_new wB (.slice none 0 0) 67
    have hb0 : Below wB.heap.size wB ((wB.alloc (.cells #[.slice none 0 0] 67)).alloc (.cells #[.string s] 9)) := ((Below.refl _ wB).alloc (Nat.le_refl _) _).alloc (by simp) _
    exact ⟨⟨_, [], [], ⟨rfl, .inr HLA.out, OwnR.nil _ _ _, rfl, fun k hk => by simp at hk, fun k hk => by simp at hk, hb0⟩, OwnR.nil _ _ _, fun k hk => by simp at hk, (Below.cell (((Below.refl _ _).alloc (Nat.le_refl _) _) : Below (wB.alloc (.cells #[.slice none 0 0] 67)).heap.size _ _) (p := ⟨wB.heap.size, 0, none⟩) (by simp)).trans hcn.1⟩, (Below.frozen (((Below.refl _ _).alloc (Nat.le_refl _) _) : Below (wB.alloc (.cells #[.slice none 0 0] 67)).heap.size _ _) (p := ⟨wB.heap.size, 0, none⟩) (by simp)).trans hcn.2, hs, by rw [hz0]; omega⟩
  case assign =>
    intro l x W K hK
    gi_wp2
    exact hK
  case body =>
    rintro l t o W hI ho hol hcb hfb
    have HI := Lib.hid hI
    have hEW : Env W := by
      obtain ⟨v, dn, H, hr, -⟩ := hI.st
      exact hE2.out.below hr.below
    have T1 := Lib.hid (trim_any t o ho hol hI.sz W)
    have HW := Lib.hid hEW
    have HO := Lib.hid ho
    clear hI hEW ho
    gi_wp2_with (first
      | (refine ⟨trivial, ?_⟩; gi_at_call 80; refine (CallsIn.inRound l (callsIn_wide.2 T1.out)).mono ?_; rintro e w1 ⟨⟨l0, hl0, hz1, rfl⟩, hw⟩; obtain rfl := hw.symm; clear T1)
      | (refine ⟨trivial, ?_⟩; gi_at_call 79; refine (CallsIn.inRound l (callsIn_wide.2 (cut35_any l0 hz1 _ HW.out))).mono ?_; rintro e w2 ⟨⟨l9, cx, cy, hl9, hz9, rfl⟩, q, hq⟩))
    have HI2 := Lib.hid (show LI s wB t (W.drewN q) from LI.own t W _ none HI.out ⟨rfl, rfl, rfl, Nat.le_refl _, fun _ _ _ => rfl⟩ (fun r e => by cases e))
    have HE3 := Lib.hid (show Env (W.drewN q) from HW.out.below ⟨rfl, rfl, rfl, Nat.le_refl _, fun _ _ => rfl⟩)
    have HK0 := Lib.hid (show KeepsOthers W (W.drewN q) from ⟨Nat.le_refl _, fun _ _ h _ => h⟩)
    have hcb2 : (W.drewN q).cell? ⟨wB.heap.size + 1, 0, none⟩ = some (.string (restOf t o)) := hcb
    have hfb2 : (W.drewN q).frozen? ⟨wB.heap.size + 1, 0, none⟩ = false := hfb
    clear hcb hfb hq
    obtain ⟨W2, eW2⟩ : ∃ V : World, W.drewN q = V := ⟨_, rfl⟩
    rw [eW2] at HI2 HE3 HK0 hcb2 hfb2 ⊢
    clear eW2
    obtain ⟨v, dn, H, hr, hOw, hk, hcv⟩ := HI2.out.st
    have hfv := HI2.out.fz
    have hpz := HI2.out.hp
    have HR := Lib.hid hr
    have HOW := Lib.hid hOw
    have HKX := Lib.hid hk
    have HL9 := Lib.hid (show l9.data.toList = (t.data.toList.take o).takeWhile (· != 35) by rw [hl9, hl0])
    clear hr hOw hk hl9 hl0
    have HSP := Lib.hid (split32_any l9 W2.drew (HE3.out.below ⟨rfl, rfl, rfl, Nat.le_refl _, fun _ _ => rfl⟩) (by omega))
    have hszd : W2.drew.heap.size = W2.heap.size := rfl
    have hcvd : W2.drew.cell? ⟨wB.heap.size, 0, none⟩ = some v := hcv
    have hmx : Tryz.prog.follows .mixedOrders = true := by kernel_rfl
    have HSQ := Lib.hid (show Calls Tryz.prog 82 #[.string l9, .string ⟨#[32]⟩] W2.drew (SpGive l9 W2 wB v) from HSP.out.mono fun e w' h => SpGive.of h hcv (by omega))
    clear HSP
    have hne : v.ownBlock ≠ some wB.heap.size := fun e => by have := (HOW.out.lt e).1; omega
    have hHn : H.length < 1073741824 := by
      have h1 := Wo.lns_len s.data.toList
      have h2 := HR.out.hl
      rw [HR.out.ln, List.length_append, size_len] at h1
      omega
    gi_region_with_o (first
      | (refine ⟨trivial, ?_⟩; gi_at_call 82; refine (CallsIn.inRound l (callsIn_wide.2 HSQ.out)).mono ?_; rintro e w4 ⟨ws, hws, hwl, rfl, HH4, hs4, hB4, hK4, hc4⟩)
      | (refine ⟨trivial, ?_⟩; gi_at_call 81; refine (CallsIn.inRound l (callsIn_wide.2 (DlGive.of (delete_any w4 W2.heap.size ws (by omega) HH4.out (frozen_lit HH4.out)) hc4 (by omega)))).mono ?_; rintro e w5 ⟨rfl, hR5, hB5, hK5, hc5, hs5⟩; obtain ⟨v6, w6, hrun, hO6, hA6, hK6⟩ := app_run ⟨some ⟨W2.heap.size, 0, none⟩, (ws.filter neB).length, ws.length⟩ (HOW.out.two hB4.out hB5.out) (by omega) hHn; obtain ⟨g6, c6, rfl⟩ := hO6.slc; have heq6 := hA6.far wB.heap.size (by omega) hne; have hc6 := (World.cell?_of_block (a := ⟨wB.heap.size, 0, none⟩) heq6).trans hc5; have hf6 := (World.frozen?_of_block (a := ⟨wB.heap.size, 0, none⟩) heq6).trans (((hB4.out.trans hB5.out).frozen (p := ⟨wB.heap.size, 0, none⟩) (by show wB.heap.size < W2.heap.size; omega)).trans hfv); have hc7 := (((Below.refl w5.heap.size w5).alloc (Nat.le_refl _) (.cells #[.slice (some ⟨W2.heap.size, 0, none⟩) (ws.filter neB).length ws.length] 56)).cell (p := ⟨wB.heap.size, 0, none⟩) (by show wB.heap.size < _; omega)).trans hc5; have HA6 := Lib.hid hA6; have HO6 := Lib.hid hO6; have HK6 := Lib.hid hK6; clear heq6 hA6 hO6 hK6))
    all_goals
      have hb25 : Below W2.heap.size W2 w5 := hB4.out.trans hB5.out
      have hnb : v.ownBlock ≠ some (wB.heap.size + 1) := fun e => by have := (HOW.out.lt e).1; omega
      have heq7 := HA6.out.far (wB.heap.size + 1) (by omega) hnb
      have hcb6 := (World.cell?_of_block (a := ⟨wB.heap.size + 1, 0, none⟩) heq7).trans ((hb25.cell (p := ⟨wB.heap.size + 1, 0, none⟩) (by show wB.heap.size + 1 < W2.heap.size; omega)).trans hcb2)
      have hfb6 := (World.frozen?_of_block (a := ⟨wB.heap.size + 1, 0, none⟩) heq7).trans ((hb25.frozen (p := ⟨wB.heap.size + 1, 0, none⟩) (by show wB.heap.size + 1 < W2.heap.size; omega)).trans hfb2)
      refine ⟨(((HK0.out.trans hK4.out).trans hK5.out).trans HK6.out).trans (KeepsOthers.setCell _ _ _), LI.next HR.out HKX.out HO.out HI.out.sz hpz hws HL9.out hR5.out hb25 (by omega) HA6.out HO6.out hf6 hc6, ?_, ?_⟩
      · exact (World.cell?_of_block (a := ⟨wB.heap.size + 1, 0, none⟩) (setCell_block _ _ _ _ _ (by show wB.heap.size + 1 ≠ wB.heap.size; omega))).trans hcb6
      · rw [World.frozen?_setCell]; exact hfb6
  case done =>
    rintro D t W hD ht hI hK
    obtain ⟨v, dn, H, hr, hO, hk, hc⟩ := hI.st
    have hok : Wo.sErr s.data.toList = 0 := sErr_ok (by rw [size_len]; have := HC4.out; omega) (by
      rintro (⟨-, h⟩ | h)
      · exact h HLA.out
      · rw [HPL.out] at h; cases h)
    have hg2 := grownBy_putObj' W D (.deferred none)
    have hr2 : ∀ r, some D = some r → ∃ o : Obj, W.heap[r]? = some o ∧ o.isCells = false := fun r e => by cases e; exact ⟨_, hK, rfl⟩
    have HF := Lib.hid (LI.fin (LI.own.putObj (.deferred none) hI (by rw [hz0] at hD; exact hD) hK rfl) (cell_kept hc hg2 hr2) ht hok hb)
    clear hok hr hO hk hI ht hg2 hr2
    gi_wp2
    refine ⟨by simp, .inl ⟨_, _, rfl, run_takeDeferred hK, ?_⟩⟩
    exact ⟨_, results_tmp2 (t := 2) (u := 3) rfl _ _ _, HF.out⟩
end Go.Proofs.YtflcdkibjakciaaGreatDoor
