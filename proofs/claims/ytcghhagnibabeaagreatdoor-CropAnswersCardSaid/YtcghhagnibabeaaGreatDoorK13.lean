/-
  LINES OF WORDS that are being built, row by row; and THE WALK over crop.Print.
-/
import Derived.Test.YtcghhagnibabeaaGreatDoorMD
import Derived.Test.YtcghhagnibabeaaGreatDoorW11
import Derived.Test.YtcghhagnibabeaaGreatDoorS5
import Derived.Test.YtcghhagnibabeaaGreatDoorTb
import Derived.Test.YtcghhagnibabeaaGreatDoorMB
import Derived.Deep.RegionHeld3
namespace Go.Proofs.YtcghhagnibabeaaGreatDoor
open Go.RowKit Cr

/-- Join with whatever stands between. -/
def JnS (ws : List ByteArray) (sep : List UInt8) (w : World) (e : Ending) (w' : World) : Prop := ∃ J : ByteArray, J.data.toList = Lib.join (ws.map (·.data.toList)) sep ∧ e = .returned (.string J) ∧ Below w.heap.size w w'

theorem joinsep_any (q : Option Addr) (ws : List ByteArray) (n c : Nat) (sep : ByteArray) (w : World) (hn : ws.length = n) (h : Recs SB w q ws) (hc : n ≤ c) (hl : (Lib.join (ws.map (·.data.toList)) sep.data.toList).length ≤ 140737488355328) (h4 : n ≤ 140737488355328) :
    Calls Tryz.prog 44 #[.slice q n c, .string sep] w (JnS ws sep.data.toList w) := by
  subst hn
  rcases h.2 with e | ⟨b, off, rfl, hb, hcell⟩
  · subst e
    exact (Tryz.strings_Join_none q c sep w).mono fun e w' ⟨he, hw⟩ => ⟨_, rfl, he, hw ▸ Below.refl _ _⟩
  · exact (Tryz.strings_Join b off c ws sep w (fun j x hx => hcell j _ (by rw [flat_str, List.getElem?_map, hx]; rfl)) hb h4 hc hl).mono fun e w' ⟨he, hw⟩ => ⟨_, rfl, he, hw⟩

/-- Lines that read as they were written. -/
def SpB (LL : List (List ByteArray)) (w : World) (e : Ending) (w' : World) : Prop := ∃ p c, e = .returned (.tuple #[.slice p LL.length c, .int .i64 0]) ∧ Hid (LinesAt w' p LL) ∧ Below w.heap.size w w'
def JnB (LL : List (List ByteArray)) (w : World) (e : Ending) (w' : World) : Prop := ∃ S : ByteArray, S.data.toList = Wo.jText (lb LL) ∧ e = .returned (.tuple #[.string S, .int .i64 0]) ∧ Below w.heap.size w w'

theorem unlb (LL : List (List ByteArray)) : (lb LL).map (fun ws => ws.map bs) = LL := by
  unfold lb
  rw [List.map_map]
  have : ∀ ws ∈ LL, ((fun ws => ws.map bs) ∘ fun ws : List ByteArray => ws.map (·.data.toList)) ws = ws := by
    intro ws _
    show (ws.map (·.data.toList)).map bs = ws
    rw [List.map_map]
    have h2 : ∀ x ∈ ws, (bs ∘ fun x : ByteArray => x.data.toList) x = x := fun x _ => rfl
    rw [List.map_congr_left h2, List.map_id']
  rw [List.map_congr_left this, List.map_id']

theorem splitB (s : ByteArray) (LL : List (List ByteArray)) (w : World) (hE : Env w) (hs : s.size ≤ 9223372036854775807) (h0 : Wo.sErr s.data.toList = 0) (hl : Wo.sList s.data.toList = lb LL) : Calls Tryz.prog 36 #[.string s] w (SpB LL w) :=
  (split_any s w hE hs).mono fun e w' ⟨p, c, h1, h2, _, h4⟩ => by
    have e : sLines s = LL := by unfold sLines; rw [hl, unlb]
    rw [e] at h1 h2
    exact ⟨p, c, by rw [h1, h0], Lib.hid h2, h4⟩

theorem joinB (LL : List (List ByteArray)) (p : Option Addr) (n c : Nat) (w : World) (hn : LL.length = n) (h : LinesAt w p LL) (hT : (Wo.jText (lb LL)).length ≤ 1099511627776) (hz : ∀ ws ∈ LL, ws.length ≤ 1099511627776) (h0 : Wo.jErr (lb LL) = 0) (ho : Wo.jOut (lb LL) = Wo.jText (lb LL)) :
    Calls Tryz.prog 35 #[.slice p n c] w (JnB LL w) :=
  (hn ▸ join_any LL p c w h hT hz).mono fun _ _ ⟨h1, h2⟩ => ⟨⟨(Wo.jOut (lb LL)).toArray⟩, by rw [ho], by rw [h1, h0], h2⟩

/-- append of a slice of records to a row of the call's own, at a step of a region: with what stays. -/
theorem OwnR.stepAp {α : Type} {S : Shape α} {P : Program} {T TS : TypeId} {bytes : Nat} (he : Elem S P T TS bytes) {w : World} {ops : Array Oper} {o : Oper} {a : Act} {K : Act → World → Prop} {Q : Exit → Act → World → Prop} {E : Prop} (hgd : o.guard = none) (s x : Operand)
    (ho : o.op = .call { callee := .builtin .append, args := #[s, x], argTypes := #[TS, TS] }) (B : Nat) (v : Value) (L M : List α) (p : Option Addr) (c n : Nat) (hM : M.length = n) (hown : OwnR S w T B v L) (hsrc : Recs S w p M) (hp : p = none → c = 0) (hs : a.eval s = v)
    (hx : a.eval x = .slice p n c) (hB : B ≤ w.heap.size) (hn : L.length + n < 1073741824) (hby : bytes ≤ 65536)
    (h : ∀ v' w', OwnR S w' T B v' (L ++ M) → Appends w w' B w.heap.size v v' → K (a.put o.dst v') w') : if Region.wanted o (yielded ops a.tmps) = true then Oper.wp P o a w K Q else E := by
  subst hM
  have hw : Region.wanted o (yielded ops a.tmps) = true := by simp [Region.wanted, hgd]
  rw [if_pos hw]
  obtain ⟨i0, z, e1, e2, e3, e4, e5⟩ := he.ex
  have hb2 : (L.length + M.length) * bytes ≤ 1073741824 * 65536 := Nat.mul_le_mul (by omega) hby
  cases p with
  | none =>
    obtain rfl := hp rfl
    have hM : M = [] := by
      rcases hsrc.2 with h | ⟨b, off, h, _⟩
      · exact h
      · cases h
    subst hM
    have hrun := run_append_owned_none (P := P) (w := w) B TS o.type T i0 S.k he.ts e1 v L.length (S.flat L) hown
    unfold Oper.wp
    simp [execOp, ho, resolve, invoke, builtin, hs, hx, hrun, Result.andThen]
    exact h _ _ (by rw [List.append_nil]; exact hown) ⟨Below.refl _ _, Nat.le_refl _, fun _ _ _ => rfl, .inl rfl⟩
  | some ad =>
    obtain ⟨v', w', hr, h2, h3, -, h4⟩ := run_append_own_at (P := P) w B TS o.type T i0 z S.k bytes he.ts e1 e2 e3 e4 e5 S.pos v L.length (S.flat L) hown ad M.length c (S.flat M) (S.flat_len M) (fun j u hu => by
      rcases hsrc.2 with rfl | ⟨b', off', hp', hl, hc⟩
      · simp [Shape.flat] at hu
      · cases hp'
        rw [Go.WideShapes.add_plain]
        exact hc j u hu) (S.flat_ones M) (by unfold maxLen; omega) (by omega) hB
    unfold Oper.wp execOp
    simp only [ho, resolve, invoke, builtin, Sem.run_bind, Sem.run_pure, Result.andThen_ok, List.map_toArray, List.map_cons, List.map_nil, hs, hx, hr]
    refine h v' w' ?_ ⟨(Below.refl B w).grown h3 hB fun k hk => (World.ownsRow.lt hown k hk).1, h3.size, fun k hk hne => h3.block k hk (fun e => hne e.symm), h4⟩
    unfold OwnR
    rw [List.length_append, S.flat_append]
    exact h2

/-- Lines of words that are being built: their headers lie at the slice v of the call's own. -/
structure LB (w wr : World) (v : Value) (LL : List (List ByteArray)) (H : List Hd) : Prop where
  own : OwnR SH wr 44 w.heap.size v H
  hl : H.length = LL.length
  rows : ∀ k (hk : k < H.length) (hk' : k < LL.length), WordsAt wr H[k] LL[k]
  apart : ∀ k (hk : k < H.length) a, H[k].p = some a → v.ownBlock ≠ some a.block ∧ w.heap.size ≤ a.block ∧ a.block < wr.heap.size
  below : Below w.heap.size w wr

theorem LB.nil {w wr : World} (h : Below w.heap.size w wr) : LB w wr (.slice none 0 0) [] [] :=
  ⟨OwnR.nil _ _ _, rfl, fun k hk => by simp at hk, fun k hk => by simp at hk, h⟩

theorem LB.stp {w wr w' : World} {v : Value} {LL : List (List ByteArray)} {H : List Hd} (h : LB w wr v LL H) (hb : Below wr.heap.size wr w') : LB w w' v LL H :=
  ⟨h.own.below hb, h.hl, fun k hk hk' => (h.rows k hk hk').below hb, fun k hk a e => ⟨(h.apart k hk a e).1, (h.apart k hk a e).2.1, Nat.lt_of_lt_of_le (h.apart k hk a e).2.2 hb.size⟩, h.below.trans (hb.mono h.below.size)⟩

theorem LB.lines {w wr : World} {v : Value} {LL : List (List ByteArray)} {H : List Hd} (h : LB w wr v LL H) {n : Nat} (hn : LL.length = n) : ∃ p c, v = .slice p n c ∧ LinesAt wr p LL := by
  obtain ⟨p, c, e, -, -, -, -, hr⟩ := h.own.cut (h.hl.trans hn)
  exact ⟨p, c, e, H, h.hl, hr, h.rows⟩

/-- One line more. -/
theorem LB.add {w wr w5 w6 : World} {v v6 : Value} {LL : List (List ByteArray)} {H : List Hd} (h : LB w wr v LL H) (hb : Below wr.heap.size wr w5) (ws : List ByteArray) (y : Hd) (hy : WordsAt w5 y ws) (hya : ∀ a, y.p = some a → wr.heap.size ≤ a.block ∧ a.block < w5.heap.size) {G : Nat}
    (hG : w5.heap.size ≤ G) (hO : OwnR SH w6 44 w.heap.size v6 (H ++ [y])) (hap : Appends w5 w6 w.heap.size G v v6) : LB w w6 v6 (LL ++ [ws]) (H ++ [y]) := by
  have h5 := h.stp hb
  have hyv : ∀ a, y.p = some a → v.ownBlock ≠ some a.block := fun a e e2 => by have := (hya a e).1; have := (h.own.lt e2).2; omega
  have hsz := hap.size
  refine ⟨hO, by rw [List.length_append, List.length_append, h.hl]; rfl, fun k hk hk' => ?_, fun k hk a e => ?_, h5.below.trans hap.below⟩
  · by_cases hlt : k < H.length
    · rw [List.getElem_append_left hlt, List.getElem_append_left (by rw [← h.hl]; exact hlt)]
      have := h5.rows k hlt (by rw [← h.hl]; exact hlt)
      exact ⟨this.1, this.2.1.far hap (fun a e => (h5.apart k hlt a e).1), this.2.2⟩
    · have e : k = H.length := by rw [List.length_append] at hk; simp at hk; omega
      subst e
      rw [List.getElem_append_right (Nat.le_refl _), List.getElem_append_right (by rw [h.hl]; exact Nat.le_refl _)]
      simp only [Nat.sub_self, h.hl, List.getElem_cons_zero]
      exact ⟨hy.1, hy.2.1.far hap hyv, hy.2.2⟩
  · have key : ∀ b : Nat, v.ownBlock ≠ some b → b < w5.heap.size → v6.ownBlock ≠ some b := fun b h1 h2 e2 => by
      rcases hap.block with e3 | e3
      · rw [e3] at e2; exact h1 e2
      · rw [e3] at e2; injection e2 with e2; omega
    by_cases hlt : k < H.length
    · rw [List.getElem_append_left hlt] at e
      obtain ⟨a1, a2, a3⟩ := h5.apart k hlt a e
      exact ⟨key _ a1 a3, a2, by omega⟩
    · have e2 : k = H.length := by rw [List.length_append] at hk; simp at hk; omega
      subst e2
      rw [List.getElem_append_right (Nat.le_refl _)] at e
      simp only [Nat.sub_self, List.getElem_cons_zero] at e
      obtain ⟨a1, a2⟩ := hya a e
      exact ⟨key _ (hyv a e) a2, by have := h.below.size; omega, by omega⟩

/-- The text of any catalogue, or none. -/
def prT (L : List Crp) : List UInt8 := if chk L = 0 then pText L else []
def PrintGive (L : List Crp) (w : World) (e : Ending) (w' : World) : Prop := e = .returned (.tuple #[.string ⟨(prT L).toArray⟩, .int .i64 (chk L)]) ∧ Below w.heap.size w w'

theorem print_bad {L : List Crp} {er : Int} (h : chk L = er) (hne : er ≠ 0) (w w' : World) (hb : Below w.heap.size w w') : PrintGive L w (.returned (.tuple #[.string ⟨#[]⟩, .int .i64 er])) w' :=
  ⟨by unfold prT; rw [if_neg (by rw [h]; exact hne), h], hb⟩

theorem lb_lineB (L : List Crp) : lb (L.map fun c => (lineW c).map bs) = L.map lineW := by
  unfold lb
  rw [List.map_map]
  refine List.map_congr_left fun c _ => ?_
  show ((lineW c).map bs).map (·.data.toList) = lineW c
  rw [List.map_map]
  have h2 : ∀ x ∈ lineW c, ((fun x : ByteArray => x.data.toList) ∘ bs) x = x := fun x _ => rfl
  rw [List.map_congr_left h2, List.map_id']

/-- The words of a crop's line, as they lie. -/
theorem line_at (W : World) (nm : ByteArray) (fam : Int) (m : Nat) : WordsAt (W.alloc (.cells #[.string ⟨#[99, 114, 111, 112]⟩, .string nm, .string ⟨(Lib.itoa fam).toArray⟩, .string ⟨(mword m).toArray⟩] 9)) ⟨some ⟨W.heap.size, 0, none⟩, 4, 4⟩ ((lineW ⟨nm, fam, (m : Int)⟩).map bs) :=
  ⟨rfl, Recs.lit W 9 ((lineW ⟨nm, fam, (m : Int)⟩).map bs) (by show 4 ≤ _; unfold maxLen; omega), fun h => (by cases h), Nat.le_refl _⟩

/-- .. and its header behind it. -/
theorem line_hd {w6 : World} {c : Obj} {ws : List ByteArray} (h : WordsAt (w6.alloc c) ⟨some ⟨w6.heap.size, 0, none⟩, 4, 4⟩ ws) :
    Recs SH ((w6.alloc c).alloc (.cells #[.slice (some ⟨w6.heap.size, 0, none⟩) 4 4] 44)) (some ⟨w6.heap.size + 1, 0, none⟩) [(⟨some ⟨w6.heap.size, 0, none⟩, 4, 4⟩ : Hd)] ∧ WordsAt ((w6.alloc c).alloc (.cells #[.slice (some ⟨w6.heap.size, 0, none⟩) 4 4] 44)) ⟨some ⟨w6.heap.size, 0, none⟩, 4, 4⟩ ws := by
  refine ⟨?_, h.below ((Below.refl _ _).alloc (Nat.le_refl _) _)⟩
  have := Recs.lit (S := SH) (w6.alloc c) 44 [(⟨some ⟨w6.heap.size, 0, none⟩, 4, 4⟩ : Hd)] (by show 1 ≤ _; unfold maxLen; omega)
  rw [World.size_alloc] at this
  exact this

theorem bl1 {wo W : World} {o : Obj} {B : Nat} (h : Below B (wo.alloc o) W) : wo.heap.size + 1 ≤ W.heap.size := by
  have := h.size
  rw [World.size_alloc] at this
  exact this

theorem Appends.cells {w w' : World} {B G : Nat} {v v' : Value} (h : Appends w w' B G v v') {b : Nat} (hb : b < w.heap.size) (hn : v.ownBlock ≠ some b) (i : Nat) : w'.cell? ⟨b, i, none⟩ = w.cell? ⟨b, i, none⟩ := by
  have := h.far b hb hn
  simp only [World.cell?, this]

theorem OwnR.away {α : Type} {S : Shape α} {w : World} {T : TypeId} {B : Nat} {v : Value} {L : List α} (h : OwnR S w T B v L) {b : Nat} (hb : w.heap.size ≤ b) : v.ownBlock ≠ some b := fun e => by have := (h.lt e).2; omega

theorem take_map_succ {α β : Type} (f : α → β) (L : List α) (k : Nat) (h : k < L.length) : (L.take (k + 1)).map f = (L.take k).map f ++ [f L[k]] := by
  rw [List.take_succ_eq_append_getElem h, List.map_append]; rfl

set_option maxRecDepth 100000 in
set_option maxHeartbeats 8000000 in
theorem print12_any (p : Option Addr) (L : List Crp) (cap : Nat) (w : World) (h : Crops w p L) (hz : ∀ c ∈ L, c.nm.size ≤ 9223372036854775807) (hE : Env w) :
    Calls Tryz.prog 15 #[.slice p L.length cap] w (PrintGive L w) := by
  have hn := h.len
  have CK := Lib.hid (check12_any p L cap w h hz)
  unfold ChkGive at CK
  obtain ⟨er, eer⟩ : ∃ x, chk L = x := ⟨_, rfl⟩
  rw [eer] at CK
  by_cases he : er = 0
  rotate_left
  · have HF := Lib.hid (fun (w' : World) (hb : Below w.heap.size w w') => print_bad eer he w w' hb)
    have hne : (er != 0) = true := by simpa using he
    clear h hz he eer hE
    go_enter Tryz.func15, Tryz.ntmps15
    go_wp2_with (first | (go_at_call 22; (with_reducible refine Calls.mono CK.out ?_); rintro e w1 ⟨rfl, hb1⟩))
    go_ret2
    exact HF.out _ hb1
  subst he
  have HR := Lib.hid ((chk_right L).1 eer)
  have HO := Lib.hid (show prT L = pText L by unfold prT; rw [if_pos eer])
  have HEQ := Lib.hid eer
  have H := Lib.hid h
  have HE := Lib.hid hE
  have hl40 := ((chk_right L).1 eer).len
  clear h hz eer hE
  go_enter Tryz.func15, Tryz.ntmps15
  go_wp2_with (first | (go_at_call 22; (with_reducible refine Calls.mono CK.out ?_); rintro e w1 ⟨rfl, hb1⟩))
  have HB1 := Lib.hid hb1
  clear hb1
  go_loopw [5, 15] (fun v i wr => ∃ (k : Nat) (R : List Hd), k ≤ L.length ∧ i = .int .i64 k ∧ LB w wr v ((L.take k).map fun c => (lineW c).map bs) R) (fun _ i _ => L.length - (intOf i).toNat)
  case atStart => exact ⟨0, [], Nat.zero_le _, rfl, LB.nil HB1.out⟩
  case round =>
    obtain ⟨wo, rfl⟩ : ∃ wo : World, wo = wr := ⟨_, rfl⟩
    obtain ⟨k, R, hk, rfl, hB⟩ := hrel
    have hk0 : (0 : Int) ≤ (k : Int) := Int.natCast_nonneg _
    by_cases hlt : k < L.length
    · have hk1 : (k : Int) < (L.length : Int) := by omega
      obtain ⟨b, off, c, rfl, hbl, hC, hcc⟩ := SC_at (H.out.below hB.below) hlt
      obtain ⟨c0, c1, c2⟩ := hC
      obtain ⟨o1, o2, o3, o4, o5⟩ := one_ok (c := c) (by rw [← hcc.out]; exact HR.out.each _ (List.getElem_mem hlt))
      have hRl : R.length = k := by have := hB.hl; rw [List.length_map, List.length_take] at this; omega
      have hcc2 := Lib.hid hcc.out
      have HS := Lib.hid (take_map_succ (fun c => (lineW c).map bs) L k hlt)
      have HLB := Lib.hid hB
      obtain ⟨nm, fam, mrk⟩ := c
      simp only at c0 c1 c2 o1 o2 o3 o4 o5
      obtain ⟨m, rfl⟩ : ∃ m : Nat, mrk = (m : Int) := Int.eq_ofNat_of_zero_le o4
      have hW1 : Below wo.heap.size wo (wo.alloc (.cells #[.string nm, .int .i64 fam, .int .i64 (m : Int)] 31)) := (Below.refl _ _).alloc (Nat.le_refl _) _
      have DE := Lib.hid (fun (W : World) (hb : Below wo.heap.size wo W) => decimal_any fam W ((HE.out.below hB.below).below hb) (by omega) (by omega))
      have MK := Lib.hid (fun (W : World) => marks_any m (by omega) W)
      have KC := Lib.hid (fun (W : World) (hb : Below (wo.heap.size + 1) (wo.alloc (.cells #[.string nm, .int .i64 fam, .int .i64 (m : Int)] 31)) W) => show W.cell? ⟨wo.heap.size, 0, none⟩ = some (.string nm) ∧ W.cell? ⟨wo.heap.size, 1, none⟩ = some (.int .i64 fam) ∧ W.cell? ⟨wo.heap.size, 2, none⟩ = some (.int .i64 (m : Int)) from
        ⟨(hb.cell (p := ⟨wo.heap.size, 0, none⟩) (Nat.lt_succ_self _)).trans (World.cell?_alloc_new _ _ _ _), (hb.cell (p := ⟨wo.heap.size, 1, none⟩) (Nat.lt_succ_self _)).trans (World.cell?_alloc_new _ _ _ _), (hb.cell (p := ⟨wo.heap.size, 2, none⟩) (Nat.lt_succ_self _)).trans (World.cell?_alloc_new _ _ _ _)⟩)
      have B0 : Below (wo.heap.size + 1) (wo.alloc (.cells #[.string nm, .int .i64 fam, .int .i64 (m : Int)] 31)) (wo.alloc (.cells #[.string nm, .int .i64 fam, .int .i64 (m : Int)] 31)).drew := (Below.refl _ _).drew
      have hsz1 : (wo.alloc (.cells #[.string nm, .int .i64 fam, .int .i64 (m : Int)] 31)).drew.heap.size = wo.heap.size + 1 := by simp
      have HL1 := Lib.hid (fun (W : World) => line_at W nm fam m)
      have KD := Lib.hid (fun (W : World) (hb : Below (wo.heap.size + 1) (wo.alloc (.cells #[.string nm, .int .i64 fam, .int .i64 (m : Int)] 31)) W) => DE.out W (hW1.trans (hb.mono (Nat.le_succ _))))
      have HW1 := Lib.hid hW1
      have hsz0 : w.heap.size ≤ wo.heap.size := hB.below.size
      have K0 : Below (wo.heap.size + 1) (wo.alloc (.cells #[.string nm, .int .i64 fam, .int .i64 (m : Int)] 31)) (wo.alloc (.cells #[.string nm, .int .i64 fam, .int .i64 (m : Int)] 31)) := Below.refl _ _
      have K0d : Below (wo.heap.size + 1) (wo.alloc (.cells #[.string nm, .int .i64 fam, .int .i64 (m : Int)] 31)) ((wo.alloc (.cells #[.string nm, .int .i64 fam, .int .i64 (m : Int)] 31))).drew := K0.drew
      clear o1 o2 o3 o4 o5 hB B0 hsz1 hW1 DE hcc
      go_wp2_with fail
      clear c0 c1 c2 hbl
      go_region_held3 (fun W => W.cell? ⟨wo.heap.size, 0, none⟩ = some (.string nm) ∧ W.cell? ⟨wo.heap.size, 1, none⟩ = some (.int .i64 fam) ∧ W.cell? ⟨wo.heap.size, 2, none⟩ = some (.int .i64 (m : Int)))
        (first | exact KC.out _ K0 | exact KC.out _ K0d | exact KC.out _ K5 | exact KC.out _ K6 | exact KC.out _ (K6.alloc (bl1 K6) _) | exact KC.out _ K8 | exact ⟨(C7 0).trans (KC.out _ K8).1, (C7 1).trans (KC.out _ K8).2.1, (C7 2).trans (KC.out _ K8).2.2⟩ | fail)
        (first
          | (go_at_call 33; (with_reducible refine Calls.mono (KD.out _ (by first | exact K0d | exact K0)) ?_); rintro e w5 ⟨rfl, hb5⟩; have K5 : Below (wo.heap.size + 1) (wo.alloc (.cells #[.string nm, .int .i64 fam, .int .i64 (m : Int)] 31)) w5 := (by first | exact K0d.trans (hb5.mono (by simp)) | exact K0.trans (hb5.mono (by simp))))
          | (go_at_call 34; (with_reducible refine Calls.mono (MK.out _) ?_); rintro e w6 ⟨rfl, hb6⟩; have K6 : Below (wo.heap.size + 1) (wo.alloc (.cells #[.string nm, .int .i64 fam, .int .i64 (m : Int)] 31)) w6 := K5.trans (hb6.mono (bl1 K5)); have K8 : Below (wo.heap.size + 1) (wo.alloc (.cells #[.string nm, .int .i64 fam, .int .i64 (m : Int)] 31)) (((w6.alloc (.cells #[.string ⟨#[99, 114, 111, 112]⟩, .string nm, .string ⟨(Lib.itoa fam).toArray⟩, .string ⟨(mword m).toArray⟩] 9))).alloc (.cells #[.slice (some ⟨w6.heap.size, 0, none⟩) 4 4] 44)) := (K6.alloc (bl1 K6) _).alloc (Nat.le_succ_of_le (bl1 K6) |> fun h => by rw [World.size_alloc]; exact h) _; have A8 := HW1.out.trans (K8.mono (Nat.le_succ _)); have Y8 := line_hd (HL1.out w6))
          | (refine OwnR.stepAp el_row (by rfl) (.tmp 19) (.tmp 29) (by rfl) w.heap.size _ R [(⟨some ⟨w6.heap.size, 0, none⟩, 4, 4⟩ : Hd)] (some ⟨w6.heap.size + 1, 0, none⟩) 1 1 rfl (HLB.out.own.below A8) Y8.1 (fun h => by cases h) (by rfl) (by rfl) (Nat.le_trans hsz0 A8.size) (by rw [hRl]; omega) (by decide) ?_; intro v7 w7 hO7 hap7; have C7 := hap7.cells (b := wo.heap.size) (Nat.lt_of_lt_of_le (Nat.lt_succ_self _) (bl1 K8)) (HLB.out.own.away (Nat.le_refl _))) | fail)
      have LN := Lib.hid (HLB.out.add A8 ((lineW ⟨nm, fam, (m : Int)⟩).map bs) ⟨some ⟨w6.heap.size, 0, none⟩, 4, 4⟩ Y8.2 (fun a e => by cases e; have := bl1 K6; simp; omega) (Nat.le_refl _) hO7 hap7)
      go_wp2
      go_roundw
      case rel => exact ⟨k + 1, _, by omega, by go_num, by rw [HS.out, hcc2.out]; exact LN.out⟩
      case measure => simp [intOf]; omega
    · obtain rfl : k = L.length := by omega
      rw [List.take_length] at hB
      have HB := Lib.hid hB.below
      obtain ⟨q, cc, rfl, hLn⟩ := hB.lines (List.length_map _)
      obtain ⟨p1, p2, p3, p4⟩ := print_back HR.out
      have JN := Lib.hid (joinB (L.map fun c => (lineW c).map bs) q L.length cc wo (List.length_map _) hLn (by rw [lb_lineB]; have := pText_len L HR.out.each; unfold pText at this; omega) (fun ws hw => by obtain ⟨c, -, rfl⟩ := List.mem_map.1 hw; show 4 ≤ _; omega) (by rw [lb_lineB]; exact p1) (by rw [lb_lineB, p2]; rfl))
      have HF := Lib.hid (fun (S : ByteArray) (w' : World) (hS : S.data.toList = Wo.jText (lb (L.map fun c => (lineW c).map bs))) (hb : Below wo.heap.size wo w') => show PrintGive L w (.returned (.tuple #[.string S, .int .i64 0])) w' from ⟨by
        rw [lb_lineB] at hS
        have : S = ⟨(prT L).toArray⟩ := by rw [HO.out]; exact ba_ext (by rw [hS]; rfl)
        rw [this, HEQ.out], bstep (Nat.le_refl _) HB.out hb⟩)
      clear hB hLn p1 p2 p3 p4
      go_wp2_with (first | (go_at_call 35; (with_reducible refine Calls.mono JN.out ?_); rintro e w2 ⟨S, hS, rfl, hb2⟩))
      go_ret2
      exact HF.out _ _ hS hb2

end Go.Proofs.YtcghhagnibabeaaGreatDoor
