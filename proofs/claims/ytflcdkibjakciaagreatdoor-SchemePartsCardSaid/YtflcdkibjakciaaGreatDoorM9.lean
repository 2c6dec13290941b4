/-
  MERGED (mergek.py): the texts K7, Cp, K8.
-/
import Derived.Test.YtflcdkibjakciaaGreatDoorM1
import Derived.Test.YtflcdkibjakciaaGreatDoorW8
import Derived.Laws.RangeString
import Derived.Sort.Walk0

namespace Go.Proofs.YtflcdkibjakciaaGreatDoor
open Go.RowKit Cr

theorem bit0 : ∀ m, m < 32 → (bits .and .i64 ((m : Nat) : Int) 1 == 1) = decide (m / 2 ^ 0 % 2 = 1) := by decide +kernel
theorem bit1 : ∀ m, m < 32 → (bits .and .i64 (((m : Nat) : Int) / 2) 1 == 1) = decide (m / 2 ^ 1 % 2 = 1) := by decide +kernel
theorem bit2 : ∀ m, m < 32 → (bits .and .i64 (((m : Nat) : Int) / 4) 1 == 1) = decide (m / 2 ^ 2 % 2 = 1) := by decide +kernel
theorem bit3 : ∀ m, m < 32 → (bits .and .i64 (((m : Nat) : Int) / 8) 1 == 1) = decide (m / 2 ^ 3 % 2 = 1) := by decide +kernel
theorem bit4 : ∀ m, m < 32 → (bits .and .i64 (((m : Nat) : Int) / 16) 1 == 1) = decide (m / 2 ^ 4 % 2 = 1) := by decide +kernel
theorem enc112 : Utf8.encode 112 = ⟨#[112]⟩ := by decide +kernel
theorem enc103 : Utf8.encode 103 = ⟨#[103]⟩ := by decide +kernel
theorem enc99 : Utf8.encode 99 = ⟨#[99]⟩ := by decide +kernel
theorem enc102 : Utf8.encode 102 = ⟨#[102]⟩ := by decide +kernel
theorem enc108 : Utf8.encode 108 = ⟨#[108]⟩ := by decide +kernel

theorem mkTo_len (m : Nat) : ∀ k, (mkTo m k).length ≤ k
  | 0 => by simp [mkTo]
  | k + 1 => by
    have ih := mkTo_len m k
    rw [mkTo_succ, List.length_append]
    split <;> simp <;> omega

theorem Lib.mk_append (x y : List UInt8) : (⟨x.toArray⟩ : ByteArray) ++ ⟨y.toArray⟩ = ⟨(x ++ y).toArray⟩ := ByteArray.mk_append_mk x y

def OrGive (x y : ByteArray) (w : World) (e : Ending) (w' : World) : Prop := e = .returned (.string (if x.toList = [] then y else x)) ∧ w = w'

set_option maxHeartbeats 1000000 in
theorem orstr_any (x y : ByteArray) (b c : Nat) (w : World) (h0 : w.cell? ⟨b, 0, none⟩ = some (.string x)) (h1 : w.cell? ⟨b, 1, none⟩ = some (.string y)) (hy : ¬ y.toList = []) :
    Calls Tryz.prog 166 #[.slice (some ⟨b, 0, none⟩) 2 c] w (OrGive x y w) := by
  have hyb : (y.toList == []) = false := by simpa using hy
  have hye : y.toList.isEmpty = false := by cases h : y.toList with | nil => exact absurd h hy | cons a r => rfl
  by_cases hx : x.toList = []
  · have HF := Lib.hid (show OrGive x y w (.returned (.string y)) w from ⟨by rw [if_pos hx], rfl⟩)
    have hxe : x.toList.isEmpty = true := by rw [hx]; rfl
    go_enter Tryz.func166, Tryz.ntmps166
    go_wp2
    refine wp_loop_rounds 3 ?_
    rw [rounds_succ]
    go_wp2
    rw [rounds_succ]
    go_wp2
    go_ret
    exact HF.out
  · have HF := Lib.hid (show OrGive x y w (.returned (.string x)) w from ⟨by rw [if_neg hx], rfl⟩)
    have hxe : x.toList.isEmpty = false := by cases h : x.toList with | nil => exact absurd h hx | cons a r => rfl
    go_enter Tryz.func166, Tryz.ntmps166
    go_wp2
    refine wp_loop_rounds 3 ?_
    rw [rounds_succ]
    go_wp2
    go_ret
    exact HF.out

def StrGive (l : List UInt8) (w : World) (e : Ending) (w' : World) : Prop := e = .returned (.string ⟨l.toArray⟩) ∧ Below w.heap.size w w'

set_option maxRecDepth 100000 in
set_option maxHeartbeats 4000000 in
theorem marks_any (m : Nat) (hm : m < 32) (w : World) : Calls Tryz.prog 149 #[.int .i64 (m : Int)] w (StrGive (mword m) w) := by
  go_enter Tryz.func149, Tryz.ntmps149
  go_wp2
  go_loopw [3] (fun out wr => ∃ k : Nat, k ≤ 5 ∧ wr = w.iter ⟨#[112, 103, 99, 102, 108]⟩ k ∧ out = .string ⟨(mkTo m k).toArray⟩) (fun _ wr => 5 - wr.iterPos w.heap.size)
  case atStart => exact ⟨0, Nat.zero_le _, rfl, rfl⟩
  case round =>
    obtain ⟨k, hk, rfl, rfl⟩ := hrel
    obtain ⟨S, eS⟩ : ∃ S : ByteArray, (⟨#[112, 103, 99, 102, 108]⟩ : ByteArray) = S := ⟨_, rfl⟩
    obtain ⟨T, eT⟩ : ∃ T : ByteArray, (⟨(mkTo m k).toArray⟩ : ByteArray) = T := ⟨_, rfl⟩
    have hTz : T.size ≤ 5 := by rw [← size_len, ← eT]; exact Nat.le_trans (mkTo_len m k) hk
    rw [eT]
    by_cases hlt : k < 5
    · match k, hlt with
      | 0, _ =>
        have hnx : ∀ ty, (Instr.next (.pointer (some ⟨w.heap.size, 0, none⟩)) true ty).run Tryz.prog (w.iter S 0) = .ok (.tuple #[.bool true, .int .i64 0, .int .i32 112]) (w.iter S 1) := fun ty => eS ▸ run_next_ascii w ⟨#[112, 103, 99, 102, 108]⟩ 0 ty (by decide) (by decide)
        have hsn := mkTo_succ m 0
        have hbit := bit0 m hm
        have he := enc112
        have ES := Lib.hid eS
        cases hd : decide (m / 2 ^ 0 % 2 = 1) with
        | true =>
          have HR := Lib.hid (show (T ++ (⟨#[112]⟩ : ByteArray)) = (⟨(mkTo m 1).toArray⟩ : ByteArray) by
            rw [hsn, if_pos (by simpa using hd), ← eT, Lib.mk_append]; rfl)
          rw [hd] at hbit
          clear eT hsn hd
          rw [eS]
          clear eS
          go_wp2
          go_roundw
          case rel => exact ⟨1, by omega, by first | rfl | rw [ES.out], by rw [HR.out]⟩
          case measure => simp [World.iterPos_iter]
        | false =>
          have HR := Lib.hid (show T = (⟨(mkTo m 1).toArray⟩ : ByteArray) by
            rw [hsn, if_neg (by simpa using hd), ← eT, List.append_nil])
          rw [hd] at hbit
          clear eT hsn hd
          rw [eS]
          clear eS
          go_wp2
          go_roundw
          case rel => exact ⟨1, by omega, by first | rfl | rw [ES.out], by rw [HR.out]⟩
          case measure => simp [World.iterPos_iter]
      | 1, _ =>
        have hnx : ∀ ty, (Instr.next (.pointer (some ⟨w.heap.size, 0, none⟩)) true ty).run Tryz.prog (w.iter S 1) = .ok (.tuple #[.bool true, .int .i64 1, .int .i32 103]) (w.iter S 2) := fun ty => eS ▸ run_next_ascii w ⟨#[112, 103, 99, 102, 108]⟩ 1 ty (by decide) (by decide)
        have hsn := mkTo_succ m 1
        have hbit := bit1 m hm
        have he := enc103
        have ES := Lib.hid eS
        cases hd : decide (m / 2 ^ 1 % 2 = 1) with
        | true =>
          have HR := Lib.hid (show (T ++ (⟨#[103]⟩ : ByteArray)) = (⟨(mkTo m 2).toArray⟩ : ByteArray) by
            rw [hsn, if_pos (by simpa using hd), ← eT, Lib.mk_append]; rfl)
          rw [hd] at hbit
          clear eT hsn hd
          rw [eS]
          clear eS
          go_wp2
          go_roundw
          case rel => exact ⟨2, by omega, by first | rfl | rw [ES.out], by rw [HR.out]⟩
          case measure => simp [World.iterPos_iter]
        | false =>
          have HR := Lib.hid (show T = (⟨(mkTo m 2).toArray⟩ : ByteArray) by
            rw [hsn, if_neg (by simpa using hd), ← eT, List.append_nil])
          rw [hd] at hbit
          clear eT hsn hd
          rw [eS]
          clear eS
          go_wp2
          go_roundw
          case rel => exact ⟨2, by omega, by first | rfl | rw [ES.out], by rw [HR.out]⟩
          case measure => simp [World.iterPos_iter]
      | 2, _ =>
        have hnx : ∀ ty, (Instr.next (.pointer (some ⟨w.heap.size, 0, none⟩)) true ty).run Tryz.prog (w.iter S 2) = .ok (.tuple #[.bool true, .int .i64 2, .int .i32 99]) (w.iter S 3) := fun ty => eS ▸ run_next_ascii w ⟨#[112, 103, 99, 102, 108]⟩ 2 ty (by decide) (by decide)
        have hsn := mkTo_succ m 2
        have hbit := bit2 m hm
        have he := enc99
        have ES := Lib.hid eS
        cases hd : decide (m / 2 ^ 2 % 2 = 1) with
        | true =>
          have HR := Lib.hid (show (T ++ (⟨#[99]⟩ : ByteArray)) = (⟨(mkTo m 3).toArray⟩ : ByteArray) by
            rw [hsn, if_pos (by simpa using hd), ← eT, Lib.mk_append]; rfl)
          rw [hd] at hbit
          clear eT hsn hd
          rw [eS]
          clear eS
          go_wp2
          go_roundw
          case rel => exact ⟨3, by omega, by first | rfl | rw [ES.out], by rw [HR.out]⟩
          case measure => simp [World.iterPos_iter]
        | false =>
          have HR := Lib.hid (show T = (⟨(mkTo m 3).toArray⟩ : ByteArray) by
            rw [hsn, if_neg (by simpa using hd), ← eT, List.append_nil])
          rw [hd] at hbit
          clear eT hsn hd
          rw [eS]
          clear eS
          go_wp2
          go_roundw
          case rel => exact ⟨3, by omega, by first | rfl | rw [ES.out], by rw [HR.out]⟩
          case measure => simp [World.iterPos_iter]
      | 3, _ =>
        have hnx : ∀ ty, (Instr.next (.pointer (some ⟨w.heap.size, 0, none⟩)) true ty).run Tryz.prog (w.iter S 3) = .ok (.tuple #[.bool true, .int .i64 3, .int .i32 102]) (w.iter S 4) := fun ty => eS ▸ run_next_ascii w ⟨#[112, 103, 99, 102, 108]⟩ 3 ty (by decide) (by decide)
        have hsn := mkTo_succ m 3
        have hbit := bit3 m hm
        have he := enc102
        have ES := Lib.hid eS
        cases hd : decide (m / 2 ^ 3 % 2 = 1) with
        | true =>
          have HR := Lib.hid (show (T ++ (⟨#[102]⟩ : ByteArray)) = (⟨(mkTo m 4).toArray⟩ : ByteArray) by
            rw [hsn, if_pos (by simpa using hd), ← eT, Lib.mk_append]; rfl)
          rw [hd] at hbit
          clear eT hsn hd
          rw [eS]
          clear eS
          go_wp2
          go_roundw
          case rel => exact ⟨4, by omega, by first | rfl | rw [ES.out], by rw [HR.out]⟩
          case measure => simp [World.iterPos_iter]
        | false =>
          have HR := Lib.hid (show T = (⟨(mkTo m 4).toArray⟩ : ByteArray) by
            rw [hsn, if_neg (by simpa using hd), ← eT, List.append_nil])
          rw [hd] at hbit
          clear eT hsn hd
          rw [eS]
          clear eS
          go_wp2
          go_roundw
          case rel => exact ⟨4, by omega, by first | rfl | rw [ES.out], by rw [HR.out]⟩
          case measure => simp [World.iterPos_iter]
      | 4, _ =>
        have hnx : ∀ ty, (Instr.next (.pointer (some ⟨w.heap.size, 0, none⟩)) true ty).run Tryz.prog (w.iter S 4) = .ok (.tuple #[.bool true, .int .i64 4, .int .i32 108]) (w.iter S 5) := fun ty => eS ▸ run_next_ascii w ⟨#[112, 103, 99, 102, 108]⟩ 4 ty (by decide) (by decide)
        have hsn := mkTo_succ m 4
        have hbit := bit4 m hm
        have he := enc108
        have ES := Lib.hid eS
        cases hd : decide (m / 2 ^ 4 % 2 = 1) with
        | true =>
          have HR := Lib.hid (show (T ++ (⟨#[108]⟩ : ByteArray)) = (⟨(mkTo m 5).toArray⟩ : ByteArray) by
            rw [hsn, if_pos (by simpa using hd), ← eT, Lib.mk_append]; rfl)
          rw [hd] at hbit
          clear eT hsn hd
          rw [eS]
          clear eS
          go_wp2
          go_roundw
          case rel => exact ⟨5, by omega, by first | rfl | rw [ES.out], by rw [HR.out]⟩
          case measure => simp [World.iterPos_iter]
        | false =>
          have HR := Lib.hid (show T = (⟨(mkTo m 5).toArray⟩ : ByteArray) by
            rw [hsn, if_neg (by simpa using hd), ← eT, List.append_nil])
          rw [hd] at hbit
          clear eT hsn hd
          rw [eS]
          clear eS
          go_wp2
          go_roundw
          case rel => exact ⟨5, by omega, by first | rfl | rw [ES.out], by rw [HR.out]⟩
          case measure => simp [World.iterPos_iter]
      | k + 5, h => exact absurd h (by omega)
    · obtain rfl : k = 5 := by omega
      have hnx : ∀ ty, (Instr.next (.pointer (some ⟨w.heap.size, 0, none⟩)) true ty).run Tryz.prog (w.iter S 5) = .ok (.tuple #[.bool false]) (w.iter S 5) := fun ty => eS ▸ run_next_end w ⟨#[112, 103, 99, 102, 108]⟩ 5 ty (by decide)
      have HF := Lib.hid (show (if T.toList = [] then (⟨#[45]⟩ : ByteArray) else T) = ⟨(mword m).toArray⟩ by
        rw [ByteArray.toList_eq, ← eT]
        unfold mword
        by_cases h : mkTo m 5 = []
        · rw [if_pos h, if_pos h]
        · rw [if_neg h, if_neg h])
      have ES := Lib.hid eS
      have OC := Lib.hid (fun (W : World) => show Calls Tryz.prog 166 #[.slice (some ⟨W.heap.size, 0, none⟩) 2 2] (W.alloc (.cells #[.string T, .string ⟨#[45]⟩] 9)) (fun e w' => e = .returned (.string ⟨(mword m).toArray⟩) ∧ (W.alloc (.cells #[.string T, .string ⟨#[45]⟩] 9)) = w') by
        have := orstr_any T ⟨#[45]⟩ W.heap.size 2 (W.alloc (.cells #[.string T, .string ⟨#[45]⟩] 9)) (World.cell?_alloc_new W _ _ 0) (World.cell?_alloc_new W _ _ 1) (by rw [ByteArray.toList_eq]; simp)
        unfold OrGive at this
        rw [HF.out] at this
        exact this)
      have HBW := Lib.hid (show Below w.heap.size w ((w.iter S 5).alloc (.cells #[.string T, .string ⟨#[45]⟩] 9)) from ((Below.refl w.heap.size w).alloc (Nat.le_refl _) _).alloc (by simp) _)
      rw [eS]
      clear eS eT
      go_wp2_with fail
      (with_reducible refine Calls.mono (OC.out _) ?_)
      rintro e w1 ⟨rfl, rfl⟩
      go_wp2
      go_ret
      exact ⟨rfl, HBW.out⟩
end Go.Proofs.YtflcdkibjakciaaGreatDoor

namespace Go.Proofs.YtflcdkibjakciaaGreatDoor
namespace Cr
open Go.Lib

/-- A crop. -/
structure Crp where
  nm : ByteArray
  fam : Int
  mrk : Int

/-- Names in order. -/
def lt (a b : ByteArray) : Bool := Op.bytesLess a.toList b.toList

theorem lt_iff (a b : ByteArray) : lt a b = true ↔ a.data.toList < b.data.toList := by
  unfold lt
  rw [bytesLess_eq, ByteArray.toList_eq, ByteArray.toList_eq, decide_eq_true_eq]

theorem ba_ext {a b : ByteArray} (h : a.data.toList = b.data.toList) : a = b := by
  cases a with | mk a => cases b with | mk b => simp at h; rw [h]

theorem lt_irrefl (a : ByteArray) : lt a a = false := by
  cases h : lt a a with
  | false => rfl
  | true => exact absurd ((lt_iff a a).1 h) (List.lt_irrefl _)

theorem lt_trans {a b c : ByteArray} (h : lt a b = true) (k : lt b c = true) : lt a c = true :=
  (lt_iff a c).2 (List.lt_trans ((lt_iff a b).1 h) ((lt_iff b c).1 k))

theorem lt_total {a b : ByteArray} (h : lt a b = false) (k : lt b a = false) : a = b := by
  refine ba_ext ?_
  have h1 : ¬ a.data.toList < b.data.toList := fun e => by rw [(lt_iff a b).2 e] at h; cases h
  have h2 : ¬ b.data.toList < a.data.toList := fun e => by rw [(lt_iff b a).2 e] at k; cases k
  exact List.le_antisymm (List.not_lt.1 h2) (List.not_lt.1 h1)

theorem lt_asymm {a b : ByteArray} (h : lt a b = true) : lt b a = false := by
  cases k : lt b a with
  | false => rfl
  | true => have := lt_trans h k; rw [lt_irrefl] at this; cases this

/-- 'a <= b', as Go tests it. -/
theorem le_eq (a b : ByteArray) : (Op.bytesLess a.toList b.toList || a.toList == b.toList) = !lt b a := by
  cases h : lt b a with
  | true =>
    have h1 : Op.bytesLess a.toList b.toList = false := lt_asymm h
    rw [h1, Bool.false_or]
    have : a.toList ≠ b.toList := fun e => by
      have : a = b := ba_ext (by rw [← ByteArray.toList_eq, ← ByteArray.toList_eq]; exact e)
      subst this
      rw [lt_irrefl] at h; cases h
    simpa using this
  | false =>
    cases k : lt a b with
    | true => rw [show Op.bytesLess a.toList b.toList = true from k]; rfl
    | false =>
      have := lt_total k h
      subst this
      simp

/-- The first error of a crop. -/
def cErr (c : Crp) : Int :=
  if Wo.nameB c.nm.data.toList = false then 5 else if c.fam < 0 ∨ 40 < c.fam then 2 else if c.mrk < 0 ∨ 31 < c.mrk then 14 else 0

/-- The first error of crops, behind another cErr. -/
def scan : Option Crp → List Crp → Int
  | _, [] => 0
  | none, c :: r => if cErr c ≠ 0 then cErr c else scan (some c) r
  | some p, c :: r => if cErr c ≠ 0 then cErr c else if lt p.nm c.nm = false then 6 else scan (some c) r

def chk (L : List Crp) : Int := if 40 < L.length then 1 else scan none L

/-- The crop prevC of index k. -/
def prevC (L : List Crp) (k : Nat) : Option Crp := if k = 0 then none else L[k - 1]?

theorem ahead_zero (L : List Crp) : prevC L 0 = none := rfl
theorem ahead_succ (L : List Crp) (k : Nat) : prevC L (k + 1) = L[k]? := rfl

theorem scan_step {L : List Crp} {k : Nat} (hk : k < L.length) (h1 : cErr L[k] = 0) (h2 : ∀ p, prevC L k = some p → lt p.nm L[k].nm = true) : scan (prevC L k) (L.drop k) = scan (prevC L (k + 1)) (L.drop (k + 1)) := by
  rw [List.drop_eq_getElem_cons hk, ahead_succ, List.getElem?_eq_getElem hk]
  cases ha : prevC L k with
  | none => rw [scan, if_neg (fun h => h h1)]
  | some p => rw [scan, if_neg (fun h => h h1), if_neg (by rw [h2 p ha]; simp)]

theorem scan_one {L : List Crp} {k : Nat} (hk : k < L.length) (h1 : cErr L[k] ≠ 0) : scan (prevC L k) (L.drop k) = cErr L[k] := by
  rw [List.drop_eq_getElem_cons hk]
  cases prevC L k with
  | none => rw [scan, if_pos h1]
  | some p => rw [scan, if_pos h1]

theorem scan_twice {L : List Crp} {k : Nat} (hk : k < L.length) (h1 : cErr L[k] = 0) {p : Crp} (ha : prevC L k = some p) (h2 : lt p.nm L[k].nm = false) : scan (prevC L k) (L.drop k) = 6 := by
  rw [List.drop_eq_getElem_cons hk, ha, scan, if_neg (fun h => h h1), if_pos h2]

/-- A right catalogue. -/
structure Right (L : List Crp) : Prop where
  len : L.length ≤ 40
  each : ∀ c ∈ L, cErr c = 0
  asc : ∀ i (h : i + 1 < L.length), lt L[i].nm L[i + 1].nm = true

theorem scan_right : ∀ (L : List Crp) (p : Option Crp), scan p L = 0 ↔ (∀ c ∈ L, cErr c = 0) ∧ (∀ i (h : i + 1 < L.length), lt L[i].nm L[i + 1].nm = true) ∧ (∀ q c, p = some q → L[0]? = some c → lt q.nm c.nm = true)
  | [], p => by simp [scan]
  | c :: r, p => by
    have ih := scan_right r (some c)
    have e : scan p (c :: r) = 0 ↔ cErr c = 0 ∧ (∀ q, p = some q → lt q.nm c.nm = true) ∧ scan (some c) r = 0 := by
      cases p with
      | none =>
        rw [scan]
        by_cases h : cErr c = 0
        · rw [if_neg (fun k => k h)]; simp [h]
        · rw [if_pos h]; simp [h]
      | some q =>
        rw [scan]
        by_cases h : cErr c = 0
        · rw [if_neg (fun k => k h)]
          cases k : lt q.nm c.nm <;> simp [h, k]
        · rw [if_pos h]; simp [h]
    rw [e, ih]
    constructor
    · rintro ⟨h1, h2, h3, h4, h5⟩
      refine ⟨?_, ?_, ?_⟩
      · intro x hx
        rcases List.mem_cons.1 hx with rfl | hx
        · exact h1
        · exact h3 x hx
      · intro i hi
        cases i with
        | zero =>
          have h0 : 0 < r.length := by simp at hi; omega
          exact h5 c _ rfl (List.getElem?_eq_getElem h0)
        | succ i => exact h4 i (by simp at hi; omega)
      · rintro q x hq hx
        simp at hx
        subst hx
        exact h2 q hq
    · rintro ⟨h1, h2, h3⟩
      refine ⟨h1 c List.mem_cons_self, fun q hq => h3 q c hq rfl, fun x hx => h1 x (List.mem_cons_of_mem _ hx), fun i hi => h2 (i + 1) (by simp; omega), ?_⟩
      rintro q x hq hx
      injection hq with hq
      subst hq
      obtain ⟨h0, rfl⟩ := List.getElem?_eq_some_iff.1 hx
      exact h2 0 (by simp; omega)

theorem chk_right (L : List Crp) : chk L = 0 ↔ Right L := by
  unfold chk
  by_cases h : 40 < L.length
  · rw [if_pos h]
    constructor
    · intro e; cases e
    · intro e; have := e.len; omega
  · rw [if_neg h, scan_right]
    constructor
    · rintro ⟨h1, h2, -⟩; exact ⟨by omega, h1, h2⟩
    · rintro ⟨-, h1, h2⟩; exact ⟨h1, h2, fun q c hq => by cases hq⟩

theorem Right.lt {L : List Crp} (h : Right L) : ∀ {i j : Nat} (hij : i < j) (hj : j < L.length), Cr.lt L[i].nm L[j].nm = true
  | i, j + 1, hij, hj => by
    rcases Nat.lt_or_ge i j with hl | hg
    · exact lt_trans (h.lt hl (by omega)) (h.asc j hj)
    · obtain rfl : i = j := by omega
      exact h.asc i hj

theorem Right.inj {L : List Crp} (h : Right L) {i j : Nat} (hi : i < L.length) (hj : j < L.length) (e : L[i].nm = L[j].nm) : i = j := by
  rcases Nat.lt_trichotomy i j with hl | he | hg
  · have := h.lt hl hj; rw [e, lt_irrefl] at this; cases this
  · exact he
  · have := h.lt hg hi; rw [e, lt_irrefl] at this; cases this

/-- The index of a name, or -1. -/
def find (L : List Crp) (nm : ByteArray) : Int := match L.findIdx? fun c => c.nm.toList == nm.toList with | some i => i | none => -1

end Cr
end Go.Proofs.YtflcdkibjakciaaGreatDoor

namespace Go.Proofs.YtflcdkibjakciaaGreatDoor
open Go.RowKit Cr

theorem ext112 : (⟨#[112, 103, 99, 102, 108]⟩ : ByteArray).extract 0 1 = ⟨#[112]⟩ := by decide +kernel
theorem ext103 : (⟨#[112, 103, 99, 102, 108]⟩ : ByteArray).extract 1 2 = ⟨#[103]⟩ := by decide +kernel
theorem ext99 : (⟨#[112, 103, 99, 102, 108]⟩ : ByteArray).extract 2 3 = ⟨#[99]⟩ := by decide +kernel
theorem ext102 : (⟨#[112, 103, 99, 102, 108]⟩ : ByteArray).extract 3 4 = ⟨#[102]⟩ := by decide +kernel
theorem ext108 : (⟨#[112, 103, 99, 102, 108]⟩ : ByteArray).extract 4 5 = ⟨#[108]⟩ := by decide +kernel

set_option maxRecDepth 100000 in
set_option maxHeartbeats 4000000 in
theorem refmarks_any (m : Nat) (hm : m < 32) (w : World) : Calls Tryz.prog 122 #[.int .i64 (m : Int)] w (StrGive (mword m) w) := by
  go_enter Tryz.func122, Tryz.ntmps122
  go_wp2
  go_loop [3, 4] (fun out i => ∃ k : Nat, k ≤ 5 ∧ i = .int .i64 k ∧ out = .string ⟨(mkTo m k).toArray⟩) (fun _ i => 5 - (intOf i).toNat)
  case atStart => exact ⟨0, Nat.zero_le _, rfl, rfl⟩
  case round =>
    obtain ⟨k, hk, rfl, rfl⟩ := hrel
    obtain ⟨T, eT⟩ : ∃ T : ByteArray, (⟨(mkTo m k).toArray⟩ : ByteArray) = T := ⟨_, rfl⟩
    have hTz : T.size ≤ 5 := by rw [← size_len, ← eT]; exact Nat.le_trans (mkTo_len m k) hk
    rw [eT]
    match k, hk with
    | 0, _ =>
      have hsn := mkTo_succ m 0
      have hbit := bit0 m hm
      have he := ext112
      cases hd : decide (m / 2 ^ 0 % 2 = 1) with
      | true =>
        have HR := Lib.hid (show (T ++ (⟨#[112]⟩ : ByteArray)) = (⟨(mkTo m 1).toArray⟩ : ByteArray) by
          rw [hsn, if_pos (by simpa using hd), ← eT, Lib.mk_append]; rfl)
        rw [hd] at hbit
        clear eT hsn hd
        go_wp2
        go_round
        case rel => exact ⟨1, by omega, rfl, by rw [HR.out]⟩
        case measure => simp [intOf]
      | false =>
        have HR := Lib.hid (show T = (⟨(mkTo m 1).toArray⟩ : ByteArray) by
          rw [hsn, if_neg (by simpa using hd), ← eT, List.append_nil])
        rw [hd] at hbit
        clear eT hsn hd
        go_wp2
        go_round
        case rel => exact ⟨1, by omega, rfl, by rw [HR.out]⟩
        case measure => simp [intOf]
    | 1, _ =>
      have hsn := mkTo_succ m 1
      have hbit := bit1 m hm
      have he := ext103
      cases hd : decide (m / 2 ^ 1 % 2 = 1) with
      | true =>
        have HR := Lib.hid (show (T ++ (⟨#[103]⟩ : ByteArray)) = (⟨(mkTo m 2).toArray⟩ : ByteArray) by
          rw [hsn, if_pos (by simpa using hd), ← eT, Lib.mk_append]; rfl)
        rw [hd] at hbit
        clear eT hsn hd
        go_wp2
        go_round
        case rel => exact ⟨2, by omega, rfl, by rw [HR.out]⟩
        case measure => simp [intOf]
      | false =>
        have HR := Lib.hid (show T = (⟨(mkTo m 2).toArray⟩ : ByteArray) by
          rw [hsn, if_neg (by simpa using hd), ← eT, List.append_nil])
        rw [hd] at hbit
        clear eT hsn hd
        go_wp2
        go_round
        case rel => exact ⟨2, by omega, rfl, by rw [HR.out]⟩
        case measure => simp [intOf]
    | 2, _ =>
      have hsn := mkTo_succ m 2
      have hbit := bit2 m hm
      have he := ext99
      cases hd : decide (m / 2 ^ 2 % 2 = 1) with
      | true =>
        have HR := Lib.hid (show (T ++ (⟨#[99]⟩ : ByteArray)) = (⟨(mkTo m 3).toArray⟩ : ByteArray) by
          rw [hsn, if_pos (by simpa using hd), ← eT, Lib.mk_append]; rfl)
        rw [hd] at hbit
        clear eT hsn hd
        go_wp2
        go_round
        case rel => exact ⟨3, by omega, rfl, by rw [HR.out]⟩
        case measure => simp [intOf]
      | false =>
        have HR := Lib.hid (show T = (⟨(mkTo m 3).toArray⟩ : ByteArray) by
          rw [hsn, if_neg (by simpa using hd), ← eT, List.append_nil])
        rw [hd] at hbit
        clear eT hsn hd
        go_wp2
        go_round
        case rel => exact ⟨3, by omega, rfl, by rw [HR.out]⟩
        case measure => simp [intOf]
    | 3, _ =>
      have hsn := mkTo_succ m 3
      have hbit := bit3 m hm
      have he := ext102
      cases hd : decide (m / 2 ^ 3 % 2 = 1) with
      | true =>
        have HR := Lib.hid (show (T ++ (⟨#[102]⟩ : ByteArray)) = (⟨(mkTo m 4).toArray⟩ : ByteArray) by
          rw [hsn, if_pos (by simpa using hd), ← eT, Lib.mk_append]; rfl)
        rw [hd] at hbit
        clear eT hsn hd
        go_wp2
        go_round
        case rel => exact ⟨4, by omega, rfl, by rw [HR.out]⟩
        case measure => simp [intOf]
      | false =>
        have HR := Lib.hid (show T = (⟨(mkTo m 4).toArray⟩ : ByteArray) by
          rw [hsn, if_neg (by simpa using hd), ← eT, List.append_nil])
        rw [hd] at hbit
        clear eT hsn hd
        go_wp2
        go_round
        case rel => exact ⟨4, by omega, rfl, by rw [HR.out]⟩
        case measure => simp [intOf]
    | 4, _ =>
      have hsn := mkTo_succ m 4
      have hbit := bit4 m hm
      have he := ext108
      cases hd : decide (m / 2 ^ 4 % 2 = 1) with
      | true =>
        have HR := Lib.hid (show (T ++ (⟨#[108]⟩ : ByteArray)) = (⟨(mkTo m 5).toArray⟩ : ByteArray) by
          rw [hsn, if_pos (by simpa using hd), ← eT, Lib.mk_append]; rfl)
        rw [hd] at hbit
        clear eT hsn hd
        go_wp2
        go_round
        case rel => exact ⟨5, by omega, rfl, by rw [HR.out]⟩
        case measure => simp [intOf]
      | false =>
        have HR := Lib.hid (show T = (⟨(mkTo m 5).toArray⟩ : ByteArray) by
          rw [hsn, if_neg (by simpa using hd), ← eT, List.append_nil])
        rw [hd] at hbit
        clear eT hsn hd
        go_wp2
        go_round
        case rel => exact ⟨5, by omega, rfl, by rw [HR.out]⟩
        case measure => simp [intOf]
    | 5, _ =>
      by_cases h0 : mkTo m 5 = []
      · have hT : T.toList = [] := by rw [ByteArray.toList_eq, ← eT]; exact h0
        have hTe : T.toList.isEmpty = true := by rw [hT]; rfl
        have HF := Lib.hid (show (⟨#[45]⟩ : ByteArray) = ⟨(mword m).toArray⟩ by unfold mword; rw [if_pos h0])
        clear eT h0
        go_wp2
        go_ret
        exact ⟨by rw [← HF.out]; rfl, Below.refl _ _⟩
      · have hT : ¬ T.toList = [] := by rw [ByteArray.toList_eq, ← eT]; exact h0
        have hTe : T.toList.isEmpty = false := by cases h : T.toList with | nil => exact absurd h hT | cons a r => rfl
        have HF := Lib.hid (show T = ⟨(mword m).toArray⟩ by unfold mword; rw [if_neg h0, eT])
        clear eT h0
        go_wp2
        go_ret
        exact ⟨by rw [← HF.out]; rfl, Below.refl _ _⟩
    | k + 6, h => exact absurd h (by omega)

def unmV (s : List UInt8) : Int := match unm s with | some m => (m : Int) | none => 0
def UnmGive (s : List UInt8) (w : World) (e : Ending) (w' : World) : Prop := e = .returned (.tuple #[.int .i64 (unmV s), .bool (unm s).isSome]) ∧ Below w.heap.size w w'

theorem unm_at {s : List UInt8} {k : Nat} (hk : k < 32) (h : mword k = s) : unm s = some k := by rw [← h]; exact unm_mword hk
theorem unm_no {s : List UInt8} (h : ∀ j, j < 32 → mword j ≠ s) : unm s = none := by
  cases e : unm s with
  | none => rfl
  | some m => exact absurd (unm_some e).2 (h m (unm_some e).1)

set_option maxRecDepth 100000 in
set_option maxHeartbeats 4000000 in
theorem unmarks_any (s : ByteArray) (w : World) : Calls Tryz.prog 144 #[.string s] w (UnmGive s.data.toList w) := by
  go_enter Tryz.func144, Tryz.ntmps144
  go_wp2
  go_loopw [4] (fun i wr => ∃ k : Nat, k ≤ 32 ∧ i = .int .i64 k ∧ (∀ j, j < k → mword j ≠ s.data.toList) ∧ Below w.heap.size w wr) (fun i _ => 32 - (intOf i).toNat)
  case atStart => exact ⟨0, Nat.zero_le _, rfl, fun j hj => absurd hj (Nat.not_lt_zero j), Below.refl _ _⟩
  case round =>
    obtain ⟨k, hk, rfl, hall, hb⟩ := hrel
    have HA := Lib.hid hall
    have HB := Lib.hid hb
    have hk0 : (0 : Int) ≤ (k : Int) := Int.natCast_nonneg _
    clear hall hb
    by_cases hlt : k < 32
    · have hk1 : (k : Int) < 32 := by omega
      have MK := Lib.hid (fun (W : World) => refmarks_any k hlt W)
      unfold StrGive at MK
      by_cases he : mword k = s.data.toList
      · have hu := unm_at hlt he
        have HU := Lib.hid (show UnmGive s.data.toList w = fun e w' => e = .returned (.tuple #[.int .i64 (k : Int), .bool true]) ∧ Below w.heap.size w w' by unfold UnmGive unmV; rw [hu]; rfl)
        have eS : (⟨(mword k).toArray⟩ : ByteArray) = s := ba_ext (by rw [he])
        rw [eS] at MK
        clear eS hu he
        go_wp2_with (first | (go_at_call 122; (with_reducible refine Calls.mono (MK.out _) ?_); rintro e w1 ⟨rfl, hb1⟩))
        go_ret2
        rw [HU.out]
        exact ⟨rfl, HB.out.trans (hb1.mono HB.out.size)⟩
      · have HE := Lib.hid he
        have hne : ((⟨(mword k).toArray⟩ : ByteArray).toList == s.toList) = false := by rw [ByteArray.toList_eq, ByteArray.toList_eq]; simpa using he
        obtain ⟨T, eT⟩ : ∃ T : ByteArray, (⟨(mword k).toArray⟩ : ByteArray) = T := ⟨_, rfl⟩
        rw [eT] at hne MK
        clear eT he
        go_wp2_with (first | (go_at_call 122; (with_reducible refine Calls.mono (MK.out _) ?_); rintro e w1 ⟨rfl, hb1⟩))
        go_roundw
        case rel => exact ⟨k + 1, by omega, by go_num, fun j hj => by
          by_cases e : j = k
          · subst e; exact HE.out
          · exact HA.out j (by omega), HB.out.trans (hb1.mono HB.out.size)⟩
        case measure => simp [intOf]; omega
    · obtain rfl : k = 32 := by omega
      have hu := unm_no HA.out
      have HU := Lib.hid (show UnmGive s.data.toList w = fun e w' => e = .returned (.tuple #[.int .i64 0, .bool false]) ∧ Below w.heap.size w w' by unfold UnmGive unmV; rw [hu]; rfl)
      clear hu
      go_wp2
      go_ret2
      rw [HU.out]
      exact ⟨rfl, HB.out⟩
end Go.Proofs.YtflcdkibjakciaaGreatDoor
