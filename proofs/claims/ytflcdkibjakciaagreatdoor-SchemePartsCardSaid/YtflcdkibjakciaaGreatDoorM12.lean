/-
  MERGED (mergek.py): the texts K9, T11, T12.
-/
import Derived.Test.YtflcdkibjakciaaGreatDoorM9
import Derived.Test.YtflcdkibjakciaaGreatDoorShelf
import Derived.Test.YtflcdkibjakciaaGreatDoorM11
import Derived.Deep.LoopGhost
import Derived.BigFrame

namespace Go.Proofs.YtflcdkibjakciaaGreatDoor
open Go.RowKit Cr

theorem ix112 : Lib.indexByte [112, 103, 99, 102, 108] 112 = 0 := by decide +kernel
theorem ix103 : Lib.indexByte [112, 103, 99, 102, 108] 103 = 1 := by decide +kernel
theorem ix99 : Lib.indexByte [112, 103, 99, 102, 108] 99 = 2 := by decide +kernel
theorem ix102 : Lib.indexByte [112, 103, 99, 102, 108] 102 = 3 := by decide +kernel
theorem ix108 : Lib.indexByte [112, 103, 99, 102, 108] 108 = 4 := by decide +kernel

theorem ix_none {c : UInt8} (h0 : ¬ c = 112) (h1 : ¬ c = 103) (h2 : ¬ c = 99) (h3 : ¬ c = 102) (h4 : ¬ c = 108) : Lib.indexByte [112, 103, 99, 102, 108] c = -1 := by
  have e : ∀ a : UInt8, ¬ c = a → (a == c) = false := fun a h => by simpa using fun e => h e.symm
  simp [Lib.indexByte, e 112 h0, e 103 h1, e 99 h2, e 102 h3, e 108 h4]

def MarkGive (c : UInt8) (w : World) (e : Ending) (w' : World) : Prop := e = .returned (.int .i64 (markOf c : Int)) ∧ w = w'

set_option maxHeartbeats 2000000 in
theorem mark_any (c : UInt8) (w : World) : Calls Tryz.prog 170 #[.string ⟨#[c]⟩] w (MarkGive c w) := by
  by_cases h0 : c = 112
  · subst h0
    have C := Lib.hid (show ∀ W, Calls Tryz.prog 178 #[.string ⟨#[112, 103, 99, 102, 108]⟩, .string ⟨#[112]⟩] W (fun e w' => e = .returned (.bool true) ∧ w' = W) from fun W => by
      have := Tryz.strings_Contains_one ⟨#[112, 103, 99, 102, 108]⟩ 112 W
      rw [show Lib.indexByte (⟨#[112, 103, 99, 102, 108]⟩ : ByteArray).data.toList 112 = 0 from ix112] at this
      exact this)
    have I := Lib.hid (show ∀ W, Calls Tryz.prog 41 #[.string ⟨#[112, 103, 99, 102, 108]⟩, .string ⟨#[112]⟩] W (fun e w' => e = .returned (.int .i64 0) ∧ w' = W) from fun W => by
      have := Tryz.strings_Index_one ⟨#[112, 103, 99, 102, 108]⟩ 112 W
      rw [show Lib.indexByte (⟨#[112, 103, 99, 102, 108]⟩ : ByteArray).data.toList 112 = 0 from ix112] at this
      exact this)
    go_enter Tryz.func170, Tryz.ntmps170
    go_wp2_with (first
      | (go_at_call 178; (with_reducible refine Calls.mono (C.out _) ?_); rintro e w1 ⟨rfl, hw⟩; obtain rfl := hw.symm)
      | (go_at_call 41; (with_reducible refine Calls.mono (I.out _) ?_); rintro e w1 ⟨rfl, hw⟩; obtain rfl := hw.symm))
    go_ret
    exact ⟨rfl, rfl⟩
  by_cases h1 : c = 103
  · subst h1
    have C := Lib.hid (show ∀ W, Calls Tryz.prog 178 #[.string ⟨#[112, 103, 99, 102, 108]⟩, .string ⟨#[103]⟩] W (fun e w' => e = .returned (.bool true) ∧ w' = W) from fun W => by
      have := Tryz.strings_Contains_one ⟨#[112, 103, 99, 102, 108]⟩ 103 W
      rw [show Lib.indexByte (⟨#[112, 103, 99, 102, 108]⟩ : ByteArray).data.toList 103 = 1 from ix103] at this
      exact this)
    have I := Lib.hid (show ∀ W, Calls Tryz.prog 41 #[.string ⟨#[112, 103, 99, 102, 108]⟩, .string ⟨#[103]⟩] W (fun e w' => e = .returned (.int .i64 1) ∧ w' = W) from fun W => by
      have := Tryz.strings_Index_one ⟨#[112, 103, 99, 102, 108]⟩ 103 W
      rw [show Lib.indexByte (⟨#[112, 103, 99, 102, 108]⟩ : ByteArray).data.toList 103 = 1 from ix103] at this
      exact this)
    go_enter Tryz.func170, Tryz.ntmps170
    go_wp2_with (first
      | (go_at_call 178; (with_reducible refine Calls.mono (C.out _) ?_); rintro e w1 ⟨rfl, hw⟩; obtain rfl := hw.symm)
      | (go_at_call 41; (with_reducible refine Calls.mono (I.out _) ?_); rintro e w1 ⟨rfl, hw⟩; obtain rfl := hw.symm))
    go_ret
    exact ⟨rfl, rfl⟩
  by_cases h2 : c = 99
  · subst h2
    have C := Lib.hid (show ∀ W, Calls Tryz.prog 178 #[.string ⟨#[112, 103, 99, 102, 108]⟩, .string ⟨#[99]⟩] W (fun e w' => e = .returned (.bool true) ∧ w' = W) from fun W => by
      have := Tryz.strings_Contains_one ⟨#[112, 103, 99, 102, 108]⟩ 99 W
      rw [show Lib.indexByte (⟨#[112, 103, 99, 102, 108]⟩ : ByteArray).data.toList 99 = 2 from ix99] at this
      exact this)
    have I := Lib.hid (show ∀ W, Calls Tryz.prog 41 #[.string ⟨#[112, 103, 99, 102, 108]⟩, .string ⟨#[99]⟩] W (fun e w' => e = .returned (.int .i64 2) ∧ w' = W) from fun W => by
      have := Tryz.strings_Index_one ⟨#[112, 103, 99, 102, 108]⟩ 99 W
      rw [show Lib.indexByte (⟨#[112, 103, 99, 102, 108]⟩ : ByteArray).data.toList 99 = 2 from ix99] at this
      exact this)
    go_enter Tryz.func170, Tryz.ntmps170
    go_wp2_with (first
      | (go_at_call 178; (with_reducible refine Calls.mono (C.out _) ?_); rintro e w1 ⟨rfl, hw⟩; obtain rfl := hw.symm)
      | (go_at_call 41; (with_reducible refine Calls.mono (I.out _) ?_); rintro e w1 ⟨rfl, hw⟩; obtain rfl := hw.symm))
    go_ret
    exact ⟨rfl, rfl⟩
  by_cases h3 : c = 102
  · subst h3
    have C := Lib.hid (show ∀ W, Calls Tryz.prog 178 #[.string ⟨#[112, 103, 99, 102, 108]⟩, .string ⟨#[102]⟩] W (fun e w' => e = .returned (.bool true) ∧ w' = W) from fun W => by
      have := Tryz.strings_Contains_one ⟨#[112, 103, 99, 102, 108]⟩ 102 W
      rw [show Lib.indexByte (⟨#[112, 103, 99, 102, 108]⟩ : ByteArray).data.toList 102 = 3 from ix102] at this
      exact this)
    have I := Lib.hid (show ∀ W, Calls Tryz.prog 41 #[.string ⟨#[112, 103, 99, 102, 108]⟩, .string ⟨#[102]⟩] W (fun e w' => e = .returned (.int .i64 3) ∧ w' = W) from fun W => by
      have := Tryz.strings_Index_one ⟨#[112, 103, 99, 102, 108]⟩ 102 W
      rw [show Lib.indexByte (⟨#[112, 103, 99, 102, 108]⟩ : ByteArray).data.toList 102 = 3 from ix102] at this
      exact this)
    go_enter Tryz.func170, Tryz.ntmps170
    go_wp2_with (first
      | (go_at_call 178; (with_reducible refine Calls.mono (C.out _) ?_); rintro e w1 ⟨rfl, hw⟩; obtain rfl := hw.symm)
      | (go_at_call 41; (with_reducible refine Calls.mono (I.out _) ?_); rintro e w1 ⟨rfl, hw⟩; obtain rfl := hw.symm))
    go_ret
    exact ⟨rfl, rfl⟩
  by_cases h4 : c = 108
  · subst h4
    have C := Lib.hid (show ∀ W, Calls Tryz.prog 178 #[.string ⟨#[112, 103, 99, 102, 108]⟩, .string ⟨#[108]⟩] W (fun e w' => e = .returned (.bool true) ∧ w' = W) from fun W => by
      have := Tryz.strings_Contains_one ⟨#[112, 103, 99, 102, 108]⟩ 108 W
      rw [show Lib.indexByte (⟨#[112, 103, 99, 102, 108]⟩ : ByteArray).data.toList 108 = 4 from ix108] at this
      exact this)
    have I := Lib.hid (show ∀ W, Calls Tryz.prog 41 #[.string ⟨#[112, 103, 99, 102, 108]⟩, .string ⟨#[108]⟩] W (fun e w' => e = .returned (.int .i64 4) ∧ w' = W) from fun W => by
      have := Tryz.strings_Index_one ⟨#[112, 103, 99, 102, 108]⟩ 108 W
      rw [show Lib.indexByte (⟨#[112, 103, 99, 102, 108]⟩ : ByteArray).data.toList 108 = 4 from ix108] at this
      exact this)
    go_enter Tryz.func170, Tryz.ntmps170
    go_wp2_with (first
      | (go_at_call 178; (with_reducible refine Calls.mono (C.out _) ?_); rintro e w1 ⟨rfl, hw⟩; obtain rfl := hw.symm)
      | (go_at_call 41; (with_reducible refine Calls.mono (I.out _) ?_); rintro e w1 ⟨rfl, hw⟩; obtain rfl := hw.symm))
    go_ret
    exact ⟨rfl, rfl⟩
  have C := Lib.hid (show ∀ W, Calls Tryz.prog 178 #[.string ⟨#[112, 103, 99, 102, 108]⟩, .string ⟨#[c]⟩] W (fun e w' => e = .returned (.bool false) ∧ w' = W) from fun W => by
    have := Tryz.strings_Contains_one ⟨#[112, 103, 99, 102, 108]⟩ c W
    rw [show Lib.indexByte (⟨#[112, 103, 99, 102, 108]⟩ : ByteArray).data.toList c = -1 from ix_none h0 h1 h2 h3 h4] at this
    exact this)
  have HM := Lib.hid (show markOf c = 0 by unfold markOf; rw [if_neg h0, if_neg h1, if_neg h2, if_neg h3, if_neg h4])
  clear h0 h1 h2 h3 h4
  go_enter Tryz.func170, Tryz.ntmps170
  go_wp2_with (first
    | (go_at_call 178; (with_reducible refine Calls.mono (C.out _) ?_); rintro e w1 ⟨rfl, hw⟩; obtain rfl := hw.symm))
  go_ret
  exact ⟨by rw [HM.out]; rfl, rfl⟩

theorem chars_at (s : ByteArray) (j : Nat) (h : j < s.size) : s.extract j (j + 1) = ⟨#[s[j]]⟩ := by
  refine ba_ext ?_
  rw [Lib.extract_data]
  have hl : j < s.data.toList.length := by rw [size_len]; exact h
  rw [List.drop_eq_getElem_cons hl, show j + 1 - j = 1 by omega]
  rfl
end Go.Proofs.YtflcdkibjakciaaGreatDoor

namespace Go.Proofs.YtflcdkibjakciaaGreatDoor
open Go.RowKit Te

/-- A reader at block rd: the words that are left, and whether it has failed. -/
structure RdAt (w : World) (rd : Nat) (ws : List ByteArray) (fl : Bool) : Prop where
  row : ∃ p c, w.cell? ⟨rd, 0, none⟩ = some (.slice p ws.length c) ∧ Recs SB w p ws ∧ ws.length ≤ c ∧ (p = none → c = 0) ∧ (∀ a, p = some a → ws = [] ∨ a.block < rd)
  fl : w.cell? ⟨rd, 1, none⟩ = some (.bool fl)
  f0 : w.frozen? ⟨rd, 0, none⟩ = false
  f1 : w.frozen? ⟨rd, 1, none⟩ = false
  lt : rd < w.heap.size
  wd : ∀ x ∈ ws, x.size ≤ 16384
  len : ws.length ≤ 1000000

theorem RdAt.below {w w' : World} {rd : Nat} {ws : List ByteArray} {fl : Bool} (h : RdAt w rd ws fl) (hb : Below w.heap.size w w') : RdAt w' rd ws fl := by
  obtain ⟨p, c, h1, h2, h3, h4, h5⟩ := h.row
  exact ⟨⟨p, c, (hb.cell (p := ⟨rd, 0, none⟩) h.lt).trans h1, h2.below hb, h3, h4, h5⟩, (hb.cell (p := ⟨rd, 1, none⟩) h.lt).trans h.fl, (hb.frozen (p := ⟨rd, 0, none⟩) h.lt).trans h.f0, (hb.frozen (p := ⟨rd, 1, none⟩) h.lt).trans h.f1, Nat.lt_of_lt_of_le h.lt hb.size, h.wd, h.len⟩

/-- It fails. -/
theorem RdAt.fail {w : World} {rd : Nat} {ws : List ByteArray} {fl : Bool} (h : RdAt w rd ws fl) : RdAt (w.setCell ⟨rd, 1, none⟩ (.bool true)) rd ws true ∧ But rd w (w.setCell ⟨rd, 1, none⟩ (.bool true)) := by
  have hB : But rd w (w.setCell ⟨rd, 1, none⟩ (.bool true)) := ⟨rfl, rfl, rfl, by simp [World.setCell], fun i _ hn => Below.heap_setCell w _ _ _ hn⟩
  obtain ⟨p, c, h1, h2, h3, h4, h5⟩ := h.row
  refine ⟨⟨⟨p, c, by rw [World.cell?_setCell_other _ _ _ _ (by intro e; cases e)]; exact h1, ?_, h3, h4, h5⟩, World.cell?_setCell_same _ _ _ h.fl, by rw [World.frozen?_setCell]; exact h.f0, by rw [World.frozen?_setCell]; exact h.f1, by simpa [World.setCell] using h.lt, h.wd, h.len⟩, hB⟩
  refine h2.blocks hB.size fun a e => ?_
  rcases h5 a e with h | h
  · exact .inl h
  · by_cases h0 : ws = []
    · exact .inl h0
    · exact .inr (hB.block _ (h2.lt h0 e) (Nat.ne_of_lt h))

/-- One word is taken. -/
theorem RdAt.take {w : World} {rd : Nat} {x : ByteArray} {r : List ByteArray} {fl : Bool} (h : RdAt w rd (x :: r) fl) {p' : Option Addr} {c' : Nat} (h2 : Recs SB w p' r) (h3 : r.length ≤ c') (h4 : p' = none → c' = 0) (h5 : ∀ a, p' = some a → r = [] ∨ a.block < rd) :
    RdAt (w.setCell ⟨rd, 0, none⟩ (.slice p' r.length c')) rd r fl ∧ But rd w (w.setCell ⟨rd, 0, none⟩ (.slice p' r.length c')) := by
  have hB : But rd w (w.setCell ⟨rd, 0, none⟩ (.slice p' r.length c')) := ⟨rfl, rfl, rfl, by simp [World.setCell], fun i _ hn => Below.heap_setCell w _ _ _ hn⟩
  obtain ⟨p, c, g1, -⟩ := h.row
  have hl := h.len
  rw [List.length_cons] at hl
  refine ⟨⟨⟨p', c', World.cell?_setCell_same _ _ _ g1, ?_, h3, h4, h5⟩, by rw [World.cell?_setCell_other _ _ _ _ (by intro e; cases e)]; exact h.fl, by rw [World.frozen?_setCell]; exact h.f0, by rw [World.frozen?_setCell]; exact h.f1, by simpa [World.setCell] using h.lt, fun y hy => h.wd y (List.mem_cons_of_mem _ hy), by omega⟩, hB⟩
  refine h2.blocks hB.size fun a e => ?_
  rcases h5 a e with h | h
  · exact .inl h
  · by_cases h0 : r = []
    · exact .inl h0
    · exact .inr (hB.block _ (h2.lt h0 e) (Nat.ne_of_lt h))

/-- The first word lies there. -/
theorem RdAt.head {w : World} {rd : Nat} {x : ByteArray} {r : List ByteArray} {fl : Bool} (h : RdAt w rd (x :: r) fl) :
    ∃ b off c, w.cell? ⟨rd, 0, none⟩ = some (.slice (some ⟨b, off, none⟩) (r.length + 1) c) ∧ r.length + 1 ≤ c ∧ b < w.heap.size ∧ w.cell? ⟨b, off, none⟩ = some (.string x) ∧ b < rd ∧ Recs SB w (some ⟨b, off + 1, none⟩) r := by
  obtain ⟨p, c, h1, h2, h3, h4, h5⟩ := h.row
  obtain ⟨b, off, rfl, hb, hc⟩ := h2.at (k := 0) (by simp)
  have hd := h2.drop 1
  refine ⟨b, off, c, h1, h3, hb, ?_, ?_, hd⟩
  · have := hc 0 (.string x) rfl
    rw [Nat.zero_mul, Nat.add_zero] at this
    exact this
  · rcases h5 _ rfl with h | h
    · cases h
    · exact h

def hdW (ws : List ByteArray) : ByteArray := match ws with | [] => ⟨#[]⟩ | x :: _ => x
def flW (ws : List ByteArray) (fl : Bool) : Bool := match ws with | [] => true | _ => fl
def WordG (rd : Nat) (ws : List ByteArray) (fl : Bool) (w : World) (e : Ending) (w' : World) : Prop := e = .returned (.string (hdW ws)) ∧ RdAt w' rd ws.tail (flW ws fl) ∧ But rd w w'

set_option maxHeartbeats 4000000 in
theorem rdword_any (rd : Nat) (ws : List ByteArray) (fl : Bool) (w : World) (h : RdAt w rd ws fl) :
    Calls Tryz.prog 155 #[.pointer (some ⟨rd, 0, none⟩)] w (WordG rd ws fl w) := by
  cases ws with
  | nil =>
    obtain ⟨p, c, h1, -⟩ := h.row
    have h2 := h.fl
    have h3 := h.f1
    have hF := Lib.hid h.fail
    have hl := h.lt
    clear h
    go_enter Tryz.func155, Tryz.ntmps155
    go_wp2
    go_ret
    exact ⟨rfl, hF.out.1, hF.out.2⟩
  | cons x r =>
    obtain ⟨b, off, c, h1, h2, h3, h4, h5, h6⟩ := h.head
    have h7 : b ≠ rd := Nat.ne_of_lt h5
    have hl := h.len
    rw [List.length_cons] at hl
    have g0 := h.f0
    have hlt := h.lt
    by_cases hc : c = 1
    · subst hc
      have hr : r = [] := List.length_eq_zero_iff.1 (by omega)
      subst hr
      have HT := Lib.hid (h.take (p' := some ⟨b, off, none⟩) (c' := 0) (Recs.nil _ _) (by simp) (fun e => by cases e) (fun a _ => .inl rfl))
      clear h h6
      go_enter Tryz.func155, Tryz.ntmps155
      go_wp2
      go_ret
      exact ⟨rfl, HT.out.1, HT.out.2⟩
    · have HT := Lib.hid (h.take (p' := some ⟨b, off + 1, none⟩) (c' := c - 1) h6 (by omega) (fun e => by cases e) (fun a e => .inr (by cases e; exact h5)))
      have hc1 : 1 < c := by omega
      have hc2 : (1 : Int) ≤ (c : Int) := by omega
      have hc3 : (c == 1) = false := beq_eq_false_iff_ne.2 hc
      clear h h6
      go_enter Tryz.func155, Tryz.ntmps155
      go_wp2
      go_ret
      exact ⟨rfl, HT.out.1, HT.out.2⟩

theorem numM_val (l : List UInt8) : Wo.numV l (-1125899906842624) 1125899906842624 = (numM l).getD 0 ∧ Wo.numB l (-1125899906842624) 1125899906842624 = (numM l).isSome := by
  unfold Wo.numV Wo.numB numM
  cases Wo.numO l with
  | none => exact ⟨rfl, rfl⟩
  | some v => simp only; split <;> exact ⟨rfl, rfl⟩

theorem numM_bd {l : List UInt8} {v : Int} (h : numM l = some v) : -1125899906842624 ≤ v ∧ v ≤ 1125899906842624 := by
  unfold numM at h
  split at h
  · split at h
    · cases h
    · cases h; omega
  · cases h

theorem numM_nil : numM [] = none := by decide +kernel

/-- Whether it has failed behind a number, or a mark. -/
def flag (o : Option Int) (fl : Bool) : Bool := match o with | some _ => fl | none => true
def NumRG (rd : Nat) (o : Option Int) (ws : List ByteArray) (fl : Bool) (w : World) (e : Ending) (w' : World) : Prop := e = .returned (.int .i64 (o.getD 0)) ∧ RdAt w' rd ws.tail (flag o fl) ∧ But rd w w'

set_option maxHeartbeats 4000000 in
theorem rdnumber_any (rd : Nat) (ws : List ByteArray) (fl : Bool) (w : World) (h : RdAt w rd ws fl) (hE : ∀ W, But rd w W → Env W) :
    Calls Tryz.prog 156 #[.pointer (some ⟨rd, 0, none⟩)] w (NumRG rd (numM (hdW ws).data.toList) ws fl w) := by
  have hsz : (hdW ws).size ≤ 281474976710656 := by
    cases ws with
    | nil => show 0 ≤ _; omega
    | cons x r => have := h.wd x List.mem_cons_self; show x.size ≤ _; omega
  have hn : (numM (hdW ws).data.toList).isSome = true → flW ws fl = fl := by
    cases ws with
    | nil => intro e; rw [show (hdW []).data.toList = [] from rfl, numM_nil] at e; cases e
    | cons x r => intro _; rfl
  have WD := Lib.hid (rdword_any rd ws fl w h)
  obtain ⟨hv, hb⟩ := numM_val (hdW ws).data.toList
  have NM := Lib.hid (fun (W : World) (hW : But rd w W) => show Calls Tryz.prog 84 #[.string (hdW ws), .int .i64 (-1125899906842624), .int .i64 1125899906842624] W (fun e w' => e = .returned (.tuple #[.int .i64 ((numM (hdW ws).data.toList).getD 0), .bool (numM (hdW ws).data.toList).isSome]) ∧ Below W.heap.size W w') by
    have := number_any (hdW ws) (-1125899906842624) 1125899906842624 W (hE W hW) hsz
    unfold NumGive at this
    rw [hv, hb] at this
    exact this)
  unfold WordG at WD
  obtain ⟨s, es⟩ : ∃ s, hdW ws = s := ⟨_, rfl⟩
  obtain ⟨f1, ef⟩ : ∃ f, flW ws fl = f := ⟨_, rfl⟩
  rw [ef] at hn
  rw [ef, es] at WD
  rw [es] at NM hn ⊢
  obtain ⟨o, eo⟩ : ∃ o, numM s.data.toList = o := ⟨_, rfl⟩
  rw [eo] at NM hn ⊢
  clear h hE hsz hv hb es ef eo
  cases o with
  | none =>
    have NM := Lib.hid (fun (W : World) (hW : But rd w W) => show Calls Tryz.prog 84 #[.string s, .int .i64 (-1125899906842624), .int .i64 1125899906842624] W (fun e w' => e = .returned (.tuple #[.int .i64 0, .bool false]) ∧ Below W.heap.size W w') from NM.out W hW)
    go_enter Tryz.func156, Tryz.ntmps156
    go_wp2_with (first
      | (go_at_call 155; (with_reducible refine Calls.mono WD.out ?_); rintro e w1 ⟨rfl, hr1, hb1⟩; have HR := Lib.hid hr1; have HB := Lib.hid hb1; clear hr1 hb1)
      | (go_at_call 84; (with_reducible refine Calls.mono (NM.out _ HB.out) ?_); rintro e w2 ⟨rfl, hb2⟩; have HR2 := Lib.hid (HR.out.below hb2); have HF2 := Lib.hid HR2.out.fail; have HB2 := Lib.hid (HB.out.nxt hb2); have k1 := HR2.out.fl; have k2 := HR2.out.f1; have k3 := HR2.out.lt; clear hb2)
      | fail)
    go_ret
    exact ⟨rfl, HF2.out.1, HB2.out.trans HF2.out.2⟩
  | some v =>
    have NM := Lib.hid (fun (W : World) (hW : But rd w W) => show Calls Tryz.prog 84 #[.string s, .int .i64 (-1125899906842624), .int .i64 1125899906842624] W (fun e w' => e = .returned (.tuple #[.int .i64 v, .bool true]) ∧ Below W.heap.size W w') from NM.out W hW)
    obtain rfl := hn rfl
    go_enter Tryz.func156, Tryz.ntmps156
    go_wp2_with (first
      | (go_at_call 155; (with_reducible refine Calls.mono WD.out ?_); rintro e w1 ⟨rfl, hr1, hb1⟩; have HR := Lib.hid hr1; have HB := Lib.hid hb1; clear hr1 hb1)
      | (go_at_call 84; (with_reducible refine Calls.mono (NM.out _ HB.out) ?_); rintro e w2 ⟨rfl, hb2⟩; have HR2 := Lib.hid (HR.out.below hb2); have HB2 := Lib.hid (HB.out.nxt hb2); clear hb2)
      | fail)
    go_ret
    exact ⟨rfl, HR2.out, HB2.out⟩

theorem letter_nil : letter [] = none := rfl

theorem letter_bd {s : List UInt8} {m : Int} (h : letter s = some m) : m ≠ 0 ∧ 0 ≤ m ∧ m ≤ 31 := by
  unfold letter at h
  split at h
  · next c =>
    split at h
    · cases h
    · cases h
      have := Cr.markOf_lt c
      omega
  · cases h

set_option maxHeartbeats 2000000 in
/-- crop.Mark of any text. -/
theorem markS_any (s : ByteArray) (w : World) (hs : s.size ≤ 9223372036854775807) : Calls Tryz.prog 170 #[.string s] w fun e w' => e = .returned (.int .i64 ((letter s.data.toList).getD 0)) ∧ w = w' := by
  by_cases h1 : s.size = 1
  · obtain ⟨c, rfl⟩ : ∃ c, s = ⟨#[c]⟩ := by
      obtain ⟨⟨l⟩⟩ := s
      match l, h1 with
      | [c], _ => exact ⟨c, rfl⟩
    have e : (letter (⟨#[c]⟩ : ByteArray).data.toList).getD 0 = (Cr.markOf c : Int) := by
      show (letter [c]).getD 0 = _
      unfold letter
      simp only
      split
      · next h => rw [h]; rfl
      · rfl
    rw [e]
    exact mark_any c w
  · have e : letter s.data.toList = none := by
      have : s.data.toList.length ≠ 1 := by rw [sz_len]; exact h1
      unfold letter
      split
      · next c e => rw [e] at this; exact absurd rfl this
      · rfl
    rw [e]
    have h2 : ((s.size : Int) != 1) = true := bne_iff_ne.2 (by omega)
    have h3 : ¬ (s.size : Int) = 1 := by omega
    clear e h1
    go_enter Tryz.func170, Tryz.ntmps170
    go_wp2
    go_ret
    exact ⟨rfl, rfl⟩

set_option maxHeartbeats 4000000 in
theorem rdmark_any (rd : Nat) (ws : List ByteArray) (fl : Bool) (w : World) (h : RdAt w rd ws fl) :
    Calls Tryz.prog 157 #[.pointer (some ⟨rd, 0, none⟩)] w (NumRG rd (letter (hdW ws).data.toList) ws fl w) := by
  have hsz : (hdW ws).size ≤ 9223372036854775807 := by
    cases ws with
    | nil => show 0 ≤ _; omega
    | cons x r => have := h.wd x List.mem_cons_self; show x.size ≤ _; omega
  have hn : (letter (hdW ws).data.toList).isSome = true → flW ws fl = fl := by
    cases ws with
    | nil => intro e; cases e
    | cons x r => intro _; rfl
  have WD := Lib.hid (rdword_any rd ws fl w h)
  have NM := Lib.hid (fun (W : World) => markS_any (hdW ws) W hsz)
  unfold WordG at WD
  obtain ⟨s, es⟩ : ∃ s, hdW ws = s := ⟨_, rfl⟩
  obtain ⟨f1, ef⟩ : ∃ f, flW ws fl = f := ⟨_, rfl⟩
  rw [ef] at hn
  rw [ef, es] at WD
  rw [es] at NM hn ⊢
  have hbd := fun v => letter_bd (s := s.data.toList) (m := v)
  obtain ⟨o, eo⟩ : ∃ o, letter s.data.toList = o := ⟨_, rfl⟩
  rw [eo] at NM hn hbd ⊢
  clear h hsz es ef eo
  cases o with
  | none =>
    have NM := Lib.hid (fun (W : World) => show Calls Tryz.prog 170 #[.string s] W (fun e w' => e = .returned (.int .i64 0) ∧ W = w') from NM.out W)
    clear hbd
    go_enter Tryz.func157, Tryz.ntmps157
    go_wp2_with (first
      | (go_at_call 155; (with_reducible refine Calls.mono WD.out ?_); rintro e w1 ⟨rfl, hr1, hb1⟩; have HR := Lib.hid hr1; have HB := Lib.hid hb1; have HF2 := Lib.hid HR.out.fail; have k1 := HR.out.fl; have k2 := HR.out.f1; have k3 := HR.out.lt; clear hr1 hb1)
      | (go_at_call 170; (with_reducible refine Calls.mono (NM.out _) ?_); rintro e w2 ⟨rfl, rfl⟩)
      | fail)
    go_ret
    exact ⟨rfl, HF2.out.1, HB.out.trans HF2.out.2⟩
  | some v =>
    have NM := Lib.hid (fun (W : World) => show Calls Tryz.prog 170 #[.string s] W (fun e w' => e = .returned (.int .i64 v) ∧ W = w') from NM.out W)
    obtain rfl := hn rfl
    obtain ⟨v0, v1, v2⟩ := hbd v rfl
    have v3 : (v == 0) = false := beq_eq_false_iff_ne.2 v0
    clear hbd
    go_enter Tryz.func157, Tryz.ntmps157
    go_wp2_with (first
      | (go_at_call 155; (with_reducible refine Calls.mono WD.out ?_); rintro e w1 ⟨rfl, hr1, hb1⟩; have HR := Lib.hid hr1; have HB := Lib.hid hb1; clear hr1 hb1)
      | (go_at_call 170; (with_reducible refine Calls.mono (NM.out _) ?_); rintro e w2 ⟨rfl, rfl⟩)
      | fail)
    go_ret
    exact ⟨rfl, HR.out, HB.out⟩

end Go.Proofs.YtflcdkibjakciaaGreatDoor

namespace Go.Proofs.YtflcdkibjakciaaGreatDoor
open Go.RowKit Te

/-- Words as plain bytes. -/
def ll (ws : List ByteArray) : List (List UInt8) := ws.map (·.data.toList)
theorem ll_bs (r : List (List UInt8)) : ll (r.map bs) = r := by
  unfold ll
  rw [List.map_map]
  have : ∀ x ∈ r, ((fun x : ByteArray => x.data.toList) ∘ bs) x = x := fun x _ => rfl
  rw [List.map_congr_left this, List.map_id']
theorem bs_ll (ws : List ByteArray) : (ll ws).map bs = ws := by
  unfold ll
  rw [List.map_map]
  have : ∀ x ∈ ws, (bs ∘ fun x : ByteArray => x.data.toList) x = x := fun x _ => rfl
  rw [List.map_congr_left this, List.map_id']
theorem ll_len (ws : List ByteArray) : (ll ws).length = ws.length := by unfold ll; rw [List.length_map]

/-- New memory. -/
def NewQ (B : Nat) : Nat → Prop := fun b => B ≤ b

def TermOk (rd B : Nat) (o : Option (Tm × List (List UInt8))) (row : RT) (w' : World) : Prop :=
  match o with
  | some (t, r) => RdAt w' rd (r.map bs) false ∧ ∃ d, TV (NewQ B) w' d row t
  | none => ∃ ws', RdAt w' rd ws' true
def TermG (rd : Nat) (o : Option (Tm × List (List UInt8))) (w : World) (e : Ending) (w' : World) : Prop :=
  ∃ row : RT, e = .returned (.agg #[.int .i64 row.op, .int .i64 row.num, .int .i64 row.more, .slice row.p row.n row.c]) ∧ But rd w w' ∧ TermOk rd w.heap.size o row w'

def ListOk (rd B : Nat) (o : Option (List Tm × List (List UInt8))) (p : Option Addr) (n c : Nat) (w' : World) : Prop :=
  match o with
  | some (K, r) => RdAt w' rd (r.map bs) false ∧ n = K.length ∧ n ≤ c ∧ (p = none → c = 0) ∧ ∃ d, TmsAt (NewQ B) w' d p K
  | none => ∃ ws', RdAt w' rd ws' true
def ListG (rd : Nat) (o : Option (List Tm × List (List UInt8))) (w : World) (e : Ending) (w' : World) : Prop :=
  ∃ p n c, e = .returned (.slice p n c) ∧ But rd w w' ∧ ListOk rd w.heap.size o p n c w'

/-- The four cells of a new term. -/
structure Res4 (b : Nat) (W : World) : Prop where
  c0 : W.cell? ⟨b, 0, none⟩ = some (.int .i64 0)
  c1 : W.cell? ⟨b, 1, none⟩ = some (.int .i64 0)
  c2 : W.cell? ⟨b, 2, none⟩ = some (.int .i64 0)
  c3 : W.cell? ⟨b, 3, none⟩ = some (.slice none 0 0)
  f0 : W.frozen? ⟨b, 0, none⟩ = false
  f1 : W.frozen? ⟨b, 1, none⟩ = false
  f2 : W.frozen? ⟨b, 2, none⟩ = false
  f3 : W.frozen? ⟨b, 3, none⟩ = false
  lt : b < W.heap.size

theorem Res4.blk {b : Nat} {W W' : World} (h : Res4 b W) (hs : W.heap.size ≤ W'.heap.size) (e : W'.heap[b]? = W.heap[b]?) : Res4 b W' := by
  have c : ∀ i, W'.cell? ⟨b, i, none⟩ = W.cell? ⟨b, i, none⟩ := fun i => World.cell?_of_block (w := W) e
  have f : ∀ i, W'.frozen? ⟨b, i, none⟩ = W.frozen? ⟨b, i, none⟩ := fun i => by simp only [World.frozen?, e]
  exact ⟨(c 0).trans h.c0, (c 1).trans h.c1, (c 2).trans h.c2, (c 3).trans h.c3, (f 0).trans h.f0, (f 1).trans h.f1, (f 2).trans h.f2, (f 3).trans h.f3, Nat.lt_of_lt_of_le h.lt hs⟩

theorem Res4.but {b t : Nat} {W W' : World} (h : Res4 b W) (hb : But t W W') (hne : b ≠ t) : Res4 b W' := h.blk hb.size (hb.block b h.lt hne)

theorem Res4.new (w : World) (T : TypeId) : Res4 w.heap.size (w.alloc (.cells #[.int .i64 0, .int .i64 0, .int .i64 0, .slice none 0 0] T)) := by
  have f : ∀ i, (w.alloc (.cells #[.int .i64 0, .int .i64 0, .int .i64 0, .slice none 0 0] T)).frozen? ⟨w.heap.size, i, none⟩ = false := fun i => by
    simp only [World.frozen?, World.alloc_heap_new]; simp
  exact ⟨World.cell?_alloc_new _ _ _ 0, World.cell?_alloc_new _ _ _ 1, World.cell?_alloc_new _ _ _ 2, World.cell?_alloc_new _ _ _ 3, f 0, f 1, f 2, f 3, by simp⟩

def put4 (W : World) (b : Nat) (x0 x1 x2 x3 : Value) : World := (((W.setCell ⟨b, 0, none⟩ x0).setCell ⟨b, 1, none⟩ x1).setCell ⟨b, 2, none⟩ x2).setCell ⟨b, 3, none⟩ x3

theorem put4_at {b : Nat} {W : World} (h : Res4 b W) (x0 x1 x2 x3 : Value) : (put4 W b x0 x1 x2 x3).cell? ⟨b, 0, none⟩ = some x0 ∧ (put4 W b x0 x1 x2 x3).cell? ⟨b, 1, none⟩ = some x1 ∧ (put4 W b x0 x1 x2 x3).cell? ⟨b, 2, none⟩ = some x2 ∧ (put4 W b x0 x1 x2 x3).cell? ⟨b, 3, none⟩ = some x3 := by
  unfold put4
  refine ⟨?_, ?_, ?_, ?_⟩
  · rw [World.cell?_setCell_other _ _ _ _ (fun e => by cases e), World.cell?_setCell_other _ _ _ _ (fun e => by cases e), World.cell?_setCell_other _ _ _ _ (fun e => by cases e), World.cell?_setCell_same _ _ _ h.c0]
  · rw [World.cell?_setCell_other _ _ _ _ (fun e => by cases e), World.cell?_setCell_other _ _ _ _ (fun e => by cases e), World.cell?_setCell_same _ _ _ ((World.cell?_setCell_other _ _ _ _ (fun e => by cases e)).trans h.c1)]
  · rw [World.cell?_setCell_other _ _ _ _ (fun e => by cases e), World.cell?_setCell_same _ _ _ ((World.cell?_setCell_other _ _ _ _ (fun e => by cases e)).trans ((World.cell?_setCell_other _ _ _ _ (fun e => by cases e)).trans h.c2))]
  · rw [World.cell?_setCell_same _ _ _ ((World.cell?_setCell_other _ _ _ _ (fun e => by cases e)).trans ((World.cell?_setCell_other _ _ _ _ (fun e => by cases e)).trans ((World.cell?_setCell_other _ _ _ _ (fun e => by cases e)).trans h.c3)))]

theorem put4_block (W : World) (b : Nat) (x0 x1 x2 x3 : Value) : (put4 W b x0 x1 x2 x3).heap.size = W.heap.size ∧ ∀ k, k ≠ b → (put4 W b x0 x1 x2 x3).heap[k]? = W.heap[k]? := by
  refine ⟨by simp [put4, World.setCell], fun k hk => ?_⟩
  unfold put4
  simp [World.setCell, Array.getElem?_modify, Ne.symm hk]

/-- A block that is written, behind all old ones. -/
theorem put4_below {B b : Nat} {W : World} (hb : B ≤ b) (x0 x1 x2 x3 : Value) : Below B W (put4 W b x0 x1 x2 x3) :=
  ((((Below.refl B W).setCell hb _).setCell hb _).setCell hb _).setCell hb _

/-- The result's block, new, is written last. -/
theorem put4_but {rd : Nat} {w W : World} (hb : But rd w W) (x0 x1 x2 x3 : Value) : But rd w (put4 W w.heap.size x0 x1 x2 x3) :=
  hb.stpB (put4_below (Nat.le_refl _) x0 x1 x2 x3) (Nat.le_refl _)

theorem RdAt.put4 {rd b : Nat} {W : World} {ws : List ByteArray} {fl : Bool} (h : RdAt W rd ws fl) (hlt : rd < b) (x0 x1 x2 x3 : Value) : RdAt (put4 W b x0 x1 x2 x3) rd ws fl := by
  obtain ⟨hs, hk⟩ := put4_block W b x0 x1 x2 x3
  have e := hk rd (Nat.ne_of_lt hlt)
  have c : ∀ i, (Go.Proofs.YtflcdkibjakciaaGreatDoor.put4 W b x0 x1 x2 x3).cell? ⟨rd, i, none⟩ = W.cell? ⟨rd, i, none⟩ := fun i => World.cell?_of_block (w := W) e
  have f : ∀ i, (Go.Proofs.YtflcdkibjakciaaGreatDoor.put4 W b x0 x1 x2 x3).frozen? ⟨rd, i, none⟩ = W.frozen? ⟨rd, i, none⟩ := fun i => by simp only [World.frozen?, e]
  obtain ⟨p, cc, h1, h2, h3, h4, h5⟩ := h.row
  refine ⟨⟨p, cc, (c 0).trans h1, h2.blocks (by rw [hs]; exact Nat.le_refl _) fun a ea => ?_, h3, h4, h5⟩, (c 1).trans h.fl, (f 0).trans h.f0, (f 1).trans h.f1, by rw [hs]; exact h.lt, h.wd, h.len⟩
  rcases h5 a ea with h0 | h0
  · exact .inl h0
  · exact .inr (hk _ (by omega))

end Go.Proofs.YtflcdkibjakciaaGreatDoor
