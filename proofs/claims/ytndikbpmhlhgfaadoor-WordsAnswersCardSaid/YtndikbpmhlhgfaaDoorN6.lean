/-
  WHAT WordsBack keeps from round to round, and the contracts that its walk takes.
-/
import Derived.Test.YtndikbpmhlhgfaaDoorN5
import Derived.Test.YtndikbpmhlhgfaaDoorN4
import Derived.Test.YtndikbpmhlhgfaaDoorTb
namespace Go.Proofs.YtndikbpmhlhgfaaDoor
open Go.RowKit

/-- Join with whatever stands between. -/
def JnS (ws : List ByteArray) (sep : List UInt8) (w : World) (e : Ending) (w' : World) : Prop := ∃ J : ByteArray, J.data.toList = Lib.join (ws.map (·.data.toList)) sep ∧ e = .returned (.string J) ∧ Below w.heap.size w w'

theorem joinsep_any (q : Option Addr) (ws : List ByteArray) (n c : Nat) (sep : ByteArray) (w : World) (hn : ws.length = n) (h : Recs SB w q ws) (hc : n ≤ c) (hl : (Lib.join (ws.map (·.data.toList)) sep.data.toList).length ≤ 140737488355328) (h4 : n ≤ 140737488355328) :
    Calls Tryd.prog 23 #[.slice q n c, .string sep] w (JnS ws sep.data.toList w) := by
  subst hn
  rcases h.2 with e | ⟨b, off, rfl, hb, hcell⟩
  · subst e
    exact (Tryd.strings_Join_none q c sep w).mono fun e w' ⟨he, hw⟩ => ⟨_, rfl, he, hw ▸ Below.refl _ _⟩
  · exact (Tryd.strings_Join b off c ws sep w (fun j x hx => hcell j _ (by rw [flat_str, List.getElem?_map, hx]; rfl)) hb h4 hc hl).mono fun e w' ⟨he, hw⟩ => ⟨_, rfl, he, hw⟩

/-- Lines that read as they were written. -/
def SpB (LL : List (List ByteArray)) (w : World) (e : Ending) (w' : World) : Prop := ∃ p c, e = .returned (.tuple #[.slice p LL.length c, .int .i64 0]) ∧ Hid (LinesAt w' p LL) ∧ Below w.heap.size w w'
def JnB (LL : List (List ByteArray)) (w : World) (e : Ending) (w' : World) : Prop := ∃ S : ByteArray, S.data.toList = Wo.jText (lb LL) ∧ e = .returned (.tuple #[.string S, .int .i64 0]) ∧ Below w.heap.size w w'

theorem unlb (LL : List (List ByteArray)) : (lb LL).map (fun ws => ws.map bs) = LL := by
  unfold lb
  rw [List.map_map]
  have : ∀ ws ∈ LL, ((fun ws => ws.map bs) ∘ fun ws : List ByteArray => ws.map (·.data.toList)) ws = ws := by
    intro ws _
    show (ws.map (·.data.toList)).map bs = ws
    rw [List.map_map]
    have h2 : ∀ x ∈ ws, (bs ∘ fun x : ByteArray => x.data.toList) x = x := fun x _ => rfl
    rw [List.map_congr_left h2, List.map_id']
  rw [List.map_congr_left this, List.map_id']

theorem splitB (s : ByteArray) (LL : List (List ByteArray)) (w : World) (hE : Env w) (hs : s.size ≤ 9223372036854775807) (h0 : Wo.sErr s.data.toList = 0) (hl : Wo.sList s.data.toList = lb LL) : Calls Tryd.prog 13 #[.string s] w (SpB LL w) :=
  (split_any s w hE hs).mono fun e w' ⟨p, c, h1, h2, _, h4⟩ => by
    have e : sLines s = LL := by unfold sLines; rw [hl, unlb]
    rw [e] at h1 h2
    exact ⟨p, c, by rw [h1, h0], Lib.hid h2, h4⟩

theorem joinB (LL : List (List ByteArray)) (p : Option Addr) (n c : Nat) (w : World) (hn : LL.length = n) (h : LinesAt w p LL) (hT : (Wo.jText (lb LL)).length ≤ 1099511627776) (hz : ∀ ws ∈ LL, ws.length ≤ 1099511627776) (h0 : Wo.jErr (lb LL) = 0) (ho : Wo.jOut (lb LL) = Wo.jText (lb LL)) :
    Calls Tryd.prog 20 #[.slice p n c] w (JnB LL w) :=
  (hn ▸ join_any LL p c w h hT hz).mono fun _ _ ⟨h1, h2⟩ => ⟨⟨(Wo.jOut (lb LL)).toArray⟩, by rw [ho], by rw [h1, h0], h2⟩

theorem five_lit (W : World) (j : Nat) (hj : j < 5) : ∃ X : ByteArray, X.data.toList ∈ Wo.fiveW ∧ (W.alloc (.cells #[.string ⟨#[97]⟩, .string ⟨#[98, 55]⟩, .string ⟨#[45, 51]⟩, .string ⟨#[40]⟩, .string ⟨#[120, 46, 121]⟩] 9)).cell? ⟨W.heap.size, j, none⟩ = some (.string X) := by
  match j, hj with
  | 0, _ => exact ⟨_, (by decide), World.cell?_alloc_new _ _ _ _⟩
  | 1, _ => exact ⟨_, (by decide), World.cell?_alloc_new _ _ _ _⟩
  | 2, _ => exact ⟨_, (by decide), World.cell?_alloc_new _ _ _ _⟩
  | 3, _ => exact ⟨_, (by decide), World.cell?_alloc_new _ _ _ _⟩
  | 4, _ => exact ⟨_, (by decide), World.cell?_alloc_new _ _ _ _⟩

theorem suf_lit (W : World) (j : Nat) (hj : j < 4) : ∃ X : ByteArray, X.data.toList ∈ Wo.sufs ∧ (W.alloc (.cells #[.string ⟨#[]⟩, .string ⟨#[32]⟩, .string ⟨#[32, 35, 32, 97, 32, 98]⟩, .string ⟨#[35]⟩] 9)).cell? ⟨W.heap.size, j, none⟩ = some (.string X) := by
  match j, hj with
  | 0, _ => exact ⟨_, (by decide), World.cell?_alloc_new _ _ _ _⟩
  | 1, _ => exact ⟨_, (by decide), World.cell?_alloc_new _ _ _ _⟩
  | 2, _ => exact ⟨_, (by decide), World.cell?_alloc_new _ _ _ _⟩
  | 3, _ => exact ⟨_, (by decide), World.cell?_alloc_new _ _ _ _⟩

/-- Behind some rounds: the lines (v, of the words LL, at the headers H), the text x (of the lines ML), the tape. -/
structure WB (w wr : World) (l : List Int) (v : Value) (x : ByteArray) (ML : List (List UInt8)) (LL : List (List ByteArray)) (H : List Hd) (q : Nat) : Prop where
  mess : Wo.Mess ML (lb LL)
  txt : x.data.toList = ML.flatMap fun l => l ++ [10]
  own : OwnR SH wr 25 (w.heap.size + 1) v H
  hl : H.length = LL.length
  rows : ∀ k (hk : k < H.length) (hk' : k < LL.length), WordsAt wr H[k] LL[k]
  apart : ∀ k (hk : k < H.length) a, H[k].p = some a → v.ownBlock ≠ some a.block ∧ w.heap.size < a.block ∧ a.block < wr.heap.size
  tape : TapeAt wr w.heap.size l q
  below : Below w.heap.size w wr

theorem WB.but {w wr w' : World} {l : List Int} {v : Value} {x : ByteArray} {ML : List (List UInt8)} {LL : List (List ByteArray)} {H : List Hd} {q q' : Nat} (h : WB w wr l v x ML LL H q) (hb : But w.heap.size wr w') (ht : TapeAt w' w.heap.size l q') : WB w w' l v x ML LL H q' :=
  ⟨h.mess, h.txt, h.own.but hb (Nat.lt_succ_self _), h.hl, fun k hk hk' => ⟨(h.rows k hk hk').1, (h.rows k hk hk').2.1.but hb (fun a e => Nat.ne_of_gt (h.apart k hk a e).2.1), (h.rows k hk hk').2.2⟩,
    fun k hk a e => ⟨(h.apart k hk a e).1, (h.apart k hk a e).2.1, Nat.lt_of_lt_of_le (h.apart k hk a e).2.2 hb.size⟩, ht, h.below.trans (hb.below (Nat.le_refl _) h.below.size)⟩

theorem WB.stp {w wr w' : World} {l : List Int} {v : Value} {x : ByteArray} {ML : List (List UInt8)} {LL : List (List ByteArray)} {H : List Hd} {q : Nat} (h : WB w wr l v x ML LL H q) (hb : Below wr.heap.size wr w') : WB w w' l v x ML LL H q :=
  h.but (But.of_below hb) (h.tape.below hb)

/-- The lines as they lie. -/
theorem WB.lines {w wr : World} {l : List Int} {v : Value} {x : ByteArray} {ML : List (List UInt8)} {LL : List (List ByteArray)} {H : List Hd} {q : Nat} (h : WB w wr l v x ML LL H q) : ∃ p c, v = .slice p LL.length c ∧ LinesAt wr p LL := by
  obtain ⟨p, c, e, -, -, -, -, hr⟩ := h.own.cut h.hl
  exact ⟨p, c, e, H, h.hl, hr, h.rows⟩

theorem fix_mess {ws : List ByteArray} (h : ∀ y ∈ ws, y.data.toList ∈ Wo.fiveW) : ∀ x ∈ ws.map (·.data.toList), x ∈ Wo.fiveW := by
  intro x hx
  obtain ⟨y, hy, rfl⟩ := List.mem_map.1 hx
  exact h y hy

/-- One line more in memory: first the row of words ... -/
structure WR (w w6 : World) (l : List Int) (v6 : Value) (x : ByteArray) (ML : List (List UInt8)) (LL : List (List ByteArray)) (H : List Hd) (q : Nat) (ws : List ByteArray) (y : Hd) : Prop where
  mess : Wo.Mess ML (lb LL)
  txt : x.data.toList = ML.flatMap fun l => l ++ [10]
  own : OwnR SH w6 25 (w.heap.size + 1) v6 (H ++ [y])
  hl : H.length = LL.length
  rows : ∀ k (hk : k < (H ++ [y]).length) (hk' : k < (LL ++ [ws]).length), WordsAt w6 (H ++ [y])[k] (LL ++ [ws])[k]
  apart : ∀ k (hk : k < (H ++ [y]).length) a, (H ++ [y])[k].p = some a → v6.ownBlock ≠ some a.block ∧ w.heap.size < a.block ∧ a.block < w6.heap.size
  tape : TapeAt w6 w.heap.size l q
  below : Below w.heap.size w w6

theorem WB.row {w wa wr w6 : World} {l : List Int} {v v6 : Value} {x : ByteArray} {ML : List (List UInt8)} {LL : List (List ByteArray)} {H : List Hd} {q0 q G : Nat} {ws : List ByteArray} {y : Hd} (h : WB w wa l v x ML LL H q0) (hb : But w.heap.size wa wr) (ht : TapeAt wr w.heap.size l q)
    (hw : WordsAt wr y ws) (hp : ∀ a, y.p = some a → wa.heap.size ≤ a.block ∧ a.block < wr.heap.size) (hG : wr.heap.size ≤ G) (hO : OwnR SH w6 25 (w.heap.size + 1) v6 (H ++ [y])) (ha : Appends wr w6 (w.heap.size + 1) G v v6) : WR w w6 l v6 x ML LL H q ws y := by
  have h' := h.but hb ht
  have hv : ∀ g, v.ownBlock = some g → g < wa.heap.size := fun g e => (h.own.lt e).2
  have hpn : ∀ a, y.p = some a → v.ownBlock ≠ some a.block := fun a e e2 => by have := hv _ e2; have := (hp a e).1; omega
  have hlt : w.heap.size < wa.heap.size := h.tape.lt
  refine ⟨h.mess, h.txt, hO, h.hl, fun k hk hk' => ?_, fun k hk a e => ?_, ht.belowB ha.below (Nat.lt_succ_self _), h'.below.trans (ha.below.mono (Nat.le_succ _))⟩
  · by_cases hlt : k < H.length
    · rw [List.getElem_append_left hlt]
      have hd : k < LL.length := by rw [← h.hl]; exact hlt
      rw [List.getElem_append_left hd]
      obtain ⟨r1, r2, r3⟩ := h'.rows k hlt hd
      exact ⟨r1, r2.far ha (fun a e => (h'.apart k hlt a e).1), r3⟩
    · have ek : k = H.length := by simp at hk; omega
      subst ek
      have e2 : (LL ++ [ws])[H.length] = ws := by
        rw [List.getElem_append_right (by rw [h.hl]; exact Nat.le_refl _)]; simp [h.hl]
      have e1 : (H ++ [y])[H.length] = y := by
        rw [List.getElem_append_right (Nat.le_refl _)]; simp
      rw [e1, e2]
      exact ⟨hw.1, hw.2.1.far ha hpn, hw.2.2⟩
  · have hx : a.block < wr.heap.size ∧ v.ownBlock ≠ some a.block ∧ w.heap.size < a.block := by
      by_cases hlt2 : k < H.length
      · rw [List.getElem_append_left hlt2] at e
        have := h'.apart k hlt2 a e
        exact ⟨this.2.2, this.1, this.2.1⟩
      · have ek : k = H.length := by simp at hk; omega
        subst ek
        rw [List.getElem_append_right (Nat.le_refl _)] at e
        have e' : y.p = some a := by simpa using e
        exact ⟨(hp a e').2, hpn a e', by have := (hp a e').1; omega⟩
    refine ⟨?_, hx.2.2, Nat.lt_of_lt_of_le hx.1 ha.size⟩
    rcases ha.block with e3 | e3
    · rw [e3]; exact hx.2.1
    · rw [e3]; intro e4; injection e4 with e4; omega

/-- ... then its text. -/
theorem WR.done {w w6 wz : World} {l : List Int} {v6 : Value} {x x' R J Z : ByteArray} {ML : List (List UInt8)} {LL : List (List ByteArray)} {H : List Hd} {q q' a b : Nat} {ws : List ByteArray} {y : Hd} (h : WR w w6 l v6 x ML LL H q ws y) (hb : But w.heap.size w6 wz) (ht : TapeAt wz w.heap.size l q')
    (h5 : ∀ z ∈ ws, z.data.toList ∈ Wo.fiveW) (h3 : ws.length ≤ 3) (ha : a ≤ 2) (hb1 : 1 ≤ b) (hb3 : b ≤ 3) (hR : R.data.toList = List.replicate a 32) (hJ : J.data.toList = Lib.join (ws.map (·.data.toList)) (List.replicate b 32)) (hZ : Z.data.toList ∈ Wo.sufs)
    (hx : x'.data.toList = x.data.toList ++ (((R.data.toList ++ J.data.toList) ++ Z.data.toList) ++ [10])) : WB w wz l v6 x' (ML ++ [Wo.mln a b (ws.map (·.data.toList)) Z.data.toList]) (LL ++ [ws]) (H ++ [y]) q' := by
  refine ⟨?_, ?_, h.own.but hb (Nat.lt_succ_self _), by simp [h.hl], fun k hk hk' => ⟨(h.rows k hk hk').1, (h.rows k hk hk').2.1.but hb (fun a e => Nat.ne_of_gt (h.apart k hk a e).2.1), (h.rows k hk hk').2.2⟩,
    fun k hk a e => ⟨(h.apart k hk a e).1, (h.apart k hk a e).2.1, Nat.lt_of_lt_of_le (h.apart k hk a e).2.2 hb.size⟩, ht, h.below.trans (hb.below (Nat.le_refl _) h.below.size)⟩
  · have : lb (LL ++ [ws]) = lb LL ++ [ws.map (·.data.toList)] := by unfold lb; rw [List.map_append]; rfl
    rw [this]
    exact h.mess.snoc ha hb1 hb3 (fix_mess h5) (by rw [List.length_map]; exact h3) hZ
  · rw [hx, h.txt, List.flatMap_append, hR, hJ]
    simp [Wo.mln, List.append_assoc]

end Go.Proofs.YtndikbpmhlhgfaaDoor
