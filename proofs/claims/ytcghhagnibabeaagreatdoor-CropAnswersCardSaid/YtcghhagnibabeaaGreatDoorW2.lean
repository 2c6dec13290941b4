/-
  THE WALKS over words.Decimal and words.Number.
-/
import Derived.Test.YtcghhagnibabeaaGreatDoorW1
import Derived.Test.YtcghhagnibabeaaGreatDoorShelf
namespace Go.Proofs.YtcghhagnibabeaaGreatDoor
open Go.RowKit

theorem sneq {a b : ByteArray} (h : a.data.toList ≠ b.data.toList) : (a.toList == b.toList) = false := by
  rw [ByteArray.toList_eq, ByteArray.toList_eq]
  simpa using h

theorem grow_below (w : World) (k : Nat) (os : Array Obj) : Below w.heap.size w (Go.Sort.grow (w.drewN k) os) :=
  ⟨rfl, rfl, rfl, by show w.heap.size ≤ (w.heap ++ os).size; rw [Array.size_append]; omega, fun i hi => by
    show (w.heap ++ os)[i]? = _
    rw [Array.getElem?_append, if_pos hi]⟩

theorem bytesWorld_below (w : World) (T : TypeId) (t : ByteArray) : Below w.heap.size w (Lib.bytesWorld w T t) :=
  ⟨rfl, rfl, rfl, by rw [Lib.bytesWorld_size]; omega, fun j hj => Lib.bytesWorld_at_old w T t j hj⟩

def DecGive (n : Int) (w : World) (e : Ending) (w' : World) : Prop := e = .returned (.string ⟨(Lib.itoa n).toArray⟩) ∧ Below w.heap.size w w'

theorem itoa_any (n : Int) (w : World) (hE : Env w) (h0 : -9223372036854775808 ≤ n) (h1 : n ≤ 9223372036854775807) : Calls Tryz.prog 51 #[.int .i64 n] w (DecGive n w) :=
  (Tryz.strconv_Itoa n h0 h1 w hE.pow).mono fun _ _ ⟨he, k, os, hw⟩ => ⟨he, hw ▸ grow_below w k os⟩

set_option maxHeartbeats 1000000 in
theorem decimal_any (n : Int) (w : World) (hE : Env w) (h0 : -9223372036854775808 ≤ n) (h1 : n ≤ 9223372036854775807) : Calls Tryz.prog 33 #[.int .i64 n] w (DecGive n w) := by
  have HI := Lib.hid (itoa_any n w hE h0 h1)
  clear hE
  go_enter Tryz.func33, Tryz.ntmps33
  go_wp2_with (first | (go_at_call 51; refine Calls.mono HI.out ?_; rintro e w1 ⟨rfl, hb⟩))
  go_ret
  exact ⟨rfl, hb⟩

theorem ret_vb {a b : Int} {c d : Bool} (h : a = b) (k : c = d) : Ending.returned (.tuple #[.int .i64 a, .bool c]) = .returned (.tuple #[.int .i64 b, .bool d]) := by rw [h, k]

def NumGive (l : List UInt8) (least most : Int) (w : World) (e : Ending) (w' : World) : Prop := e = .returned (.tuple #[.int .i64 (Wo.numV l least most), .bool (Wo.numB l least most)]) ∧ Below w.heap.size w w'

theorem num_none {l : List UInt8} (h : Wo.numO l = none) (a b : Int) : Wo.numV l a b = 0 ∧ Wo.numB l a b = false := by unfold Wo.numV Wo.numB; rw [h]; exact ⟨rfl, rfl⟩
theorem num_out {l : List UInt8} {v : Int} (h : Wo.numO l = some v) {a b : Int} (ho : v < a ∨ b < v) : Wo.numV l a b = 0 ∧ Wo.numB l a b = false := by unfold Wo.numV Wo.numB; rw [h]; simp only [if_pos ho]; exact ⟨trivial, trivial⟩
theorem num_in {l : List UInt8} {v : Int} (h : Wo.numO l = some v) {a b : Int} (ho : ¬ (v < a ∨ b < v)) : Wo.numV l a b = v ∧ Wo.numB l a b = true := by unfold Wo.numV Wo.numB; rw [h]; simp only [if_neg ho]; exact ⟨trivial, trivial⟩

set_option maxHeartbeats 2000000 in
theorem number_any (s : ByteArray) (least most : Int) (w : World) (hE : Env w) (hs : s.size ≤ 281474976710656) :
    Calls Tryz.prog 71 #[.string s, .int .i64 least, .int .i64 most] w (NumGive s.data.toList least most w) := by
  obtain ⟨t1, p1, h1⟩ := hE.syn
  obtain ⟨t2, p2, h2⟩ := hE.rng
  have HE := Lib.hid hE
  cases ha : Lib.atoiAll s.data.toList with
  | range =>
    obtain ⟨e1, e2⟩ := num_none (show Wo.numO s.data.toList = none by unfold Wo.numO; rw [ha]) least most
    have HN := Lib.hid (And.intro e1 e2)
    have HA := Lib.hid (Tryz.strconv_Atoi_range_var s hs ha t2 p2 w h2)
    clear ha h1 h2 hE e1 e2
    generalize Lib.atoiSat s.data.toList = sat at *
    go_enter Tryz.func71, Tryz.ntmps71
    go_wp2_with (first | (go_at_call 92; refine Calls.mono HA.out ?_; rintro e w1 ⟨N, rfl, -, -, hb⟩))
    go_ret2
    exact ⟨ret_vb HN.out.1.symm HN.out.2.symm, hb⟩
  | ok v =>
    obtain ⟨v0, v1⟩ := Lib.atoiAll_bounds ha
    have HA := Lib.hid (Tryz.strconv_Atoi_ok s (by omega) v ha w)
    have HI := Lib.hid (fun (W : World) (h : Env W) => itoa_any v W h v0 v1)
    by_cases hs' : Lib.itoa v = s.data.toList
    · have hn : Wo.numO s.data.toList = some v := by unfold Wo.numO; rw [ha]; simp only [if_pos hs']
      have es : (⟨(Lib.itoa v).toArray⟩ : ByteArray) = s := by rw [hs']
      have ES := Lib.hid es
      by_cases ho : v < least ∨ most < v
      · obtain ⟨e1, e2⟩ := num_out hn ho
        have HN := Lib.hid (And.intro e1 e2)
        clear ha h1 h2 hE e1 e2 hn es hs'
        rcases ho with ho | ho
        all_goals
          go_enter Tryz.func71, Tryz.ntmps71
          go_wp2_with (first | (go_at_call 92; refine Calls.mono HA.out ?_; rintro e w1 ⟨rfl, hw1⟩; have hb : Below w.heap.size w w1 := (by rcases hw1 with rfl | ⟨t, rfl⟩; (· exact Below.refl _ _); exact bytesWorld_below _ _ _); clear hw1) | (go_at_call 51; refine Calls.mono (HI.out _ (HE.out.below hb)) ?_; rintro e w2 ⟨rfl, hb2⟩; rw [ES.out]))
          all_goals
            go_ret2
            exact ⟨ret_vb HN.out.1.symm HN.out.2.symm, (hb.trans (hb2.mono hb.size))⟩
      · obtain ⟨e1, e2⟩ := num_in hn ho
        have HN := Lib.hid (And.intro e1 e2)
        have ho1 : ¬ v < least := fun h => ho (.inl h)
        have ho2 : ¬ most < v := fun h => ho (.inr h)
        clear ha h1 h2 hE e1 e2 hn es hs' ho
        go_enter Tryz.func71, Tryz.ntmps71
        go_wp2_with (first | (go_at_call 92; refine Calls.mono HA.out ?_; rintro e w1 ⟨rfl, hw1⟩; have hb : Below w.heap.size w w1 := (by rcases hw1 with rfl | ⟨t, rfl⟩; (· exact Below.refl _ _); exact bytesWorld_below _ _ _); clear hw1) | (go_at_call 51; refine Calls.mono (HI.out _ (HE.out.below hb)) ?_; rintro e w2 ⟨rfl, hb2⟩; rw [ES.out]))
        go_ret2
        exact ⟨ret_vb HN.out.1.symm HN.out.2.symm, (hb.trans (hb2.mono hb.size))⟩
    · have hn : Wo.numO s.data.toList = none := by unfold Wo.numO; rw [ha]; simp only [if_neg hs']
      obtain ⟨e1, e2⟩ := num_none hn least most
      have HN := Lib.hid (And.intro e1 e2)
      have es : ((⟨(Lib.itoa v).toArray⟩ : ByteArray).toList == s.toList) = false := sneq (by exact hs')
      clear ha h1 h2 hE e1 e2 hn hs'
      obtain ⟨sv, esv⟩ : ∃ x : ByteArray, (⟨(Lib.itoa v).toArray⟩ : ByteArray) = x := ⟨_, rfl⟩
      rw [esv] at es
      have ES := Lib.hid esv
      clear esv
      go_enter Tryz.func71, Tryz.ntmps71
      go_wp2_with (first | (go_at_call 92; refine Calls.mono HA.out ?_; rintro e w1 ⟨rfl, hw1⟩; have hb : Below w.heap.size w w1 := (by rcases hw1 with rfl | ⟨t, rfl⟩; (· exact Below.refl _ _); exact bytesWorld_below _ _ _); clear hw1) | (go_at_call 51; refine Calls.mono (HI.out _ (HE.out.below hb)) ?_; rintro e w2 ⟨rfl, hb2⟩; rw [ES.out]))
      go_ret2
      exact ⟨ret_vb HN.out.1.symm HN.out.2.symm, (hb.trans (hb2.mono hb.size))⟩
  | _ =>
    obtain ⟨e1, e2⟩ := num_none (show Wo.numO s.data.toList = none by unfold Wo.numO; rw [ha]) least most
    have HN := Lib.hid (And.intro e1 e2)
    have HA := Lib.hid (Tryz.strconv_Atoi_bad_var s hs (fun v e => by rw [ha] at e; cases e) (fun e => by rw [ha] at e; cases e) t1 p1 w h1)
    clear ha h1 h2 hE e1 e2
    go_enter Tryz.func71, Tryz.ntmps71
    go_wp2_with (first | (go_at_call 92; refine Calls.mono HA.out ?_; rintro e w1 ⟨N, rfl, -, -, hb⟩))
    go_ret2
    exact ⟨ret_vb HN.out.1.symm HN.out.2.symm, hb⟩

end Go.Proofs.YtcghhagnibabeaaGreatDoor
