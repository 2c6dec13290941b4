/-
  MERGED (mergek.py): the texts W2, W4, W5, W6.
-/
import Derived.Test.YtflcdkibjakciaaGreatDoorW1
import Derived.Test.YtflcdkibjakciaaGreatDoorShelf
import Derived.Deep.RegionHeld3
import Derived.Deep.QuietTactic
import Derived.Test.YtflcdkibjakciaaGreatDoorM4

namespace Go.Proofs.YtflcdkibjakciaaGreatDoor
open Go.RowKit

theorem sneq {a b : ByteArray} (h : a.data.toList ≠ b.data.toList) : (a.toList == b.toList) = false := by
  rw [ByteArray.toList_eq, ByteArray.toList_eq]
  simpa using h

theorem grow_below (w : World) (k : Nat) (os : Array Obj) : Below w.heap.size w (Go.Sort.grow (w.drewN k) os) :=
  ⟨rfl, rfl, rfl, by show w.heap.size ≤ (w.heap ++ os).size; rw [Array.size_append]; omega, fun i hi => by
    show (w.heap ++ os)[i]? = _
    rw [Array.getElem?_append, if_pos hi]⟩

theorem bytesWorld_below (w : World) (T : TypeId) (t : ByteArray) : Below w.heap.size w (Lib.bytesWorld w T t) :=
  ⟨rfl, rfl, rfl, by rw [Lib.bytesWorld_size]; omega, fun j hj => Lib.bytesWorld_at_old w T t j hj⟩

def DecGive (n : Int) (w : World) (e : Ending) (w' : World) : Prop := e = .returned (.string ⟨(Lib.itoa n).toArray⟩) ∧ Below w.heap.size w w'

theorem itoa_any (n : Int) (w : World) (hE : Env w) (h0 : -9223372036854775808 ≤ n) (h1 : n ≤ 9223372036854775807) : Calls Tryz.prog 100 #[.int .i64 n] w (DecGive n w) :=
  (Tryz.strconv_Itoa n h0 h1 w hE.pow).mono fun _ _ ⟨he, k, os, hw⟩ => ⟨he, hw ▸ grow_below w k os⟩

set_option maxHeartbeats 1000000 in
theorem decimal_any (n : Int) (w : World) (hE : Env w) (h0 : -9223372036854775808 ≤ n) (h1 : n ≤ 9223372036854775807) : Calls Tryz.prog 63 #[.int .i64 n] w (DecGive n w) := by
  have HI := Lib.hid (itoa_any n w hE h0 h1)
  clear hE
  go_enter Tryz.func63, Tryz.ntmps63
  go_wp2_with (first | (go_at_call 100; refine Calls.mono HI.out ?_; rintro e w1 ⟨rfl, hb⟩))
  go_ret
  exact ⟨rfl, hb⟩

theorem ret_vb {a b : Int} {c d : Bool} (h : a = b) (k : c = d) : Ending.returned (.tuple #[.int .i64 a, .bool c]) = .returned (.tuple #[.int .i64 b, .bool d]) := by rw [h, k]

def NumGive (l : List UInt8) (least most : Int) (w : World) (e : Ending) (w' : World) : Prop := e = .returned (.tuple #[.int .i64 (Wo.numV l least most), .bool (Wo.numB l least most)]) ∧ Below w.heap.size w w'

theorem num_none {l : List UInt8} (h : Wo.numO l = none) (a b : Int) : Wo.numV l a b = 0 ∧ Wo.numB l a b = false := by unfold Wo.numV Wo.numB; rw [h]; exact ⟨rfl, rfl⟩
theorem num_out {l : List UInt8} {v : Int} (h : Wo.numO l = some v) {a b : Int} (ho : v < a ∨ b < v) : Wo.numV l a b = 0 ∧ Wo.numB l a b = false := by unfold Wo.numV Wo.numB; rw [h]; simp only [if_pos ho]; exact ⟨trivial, trivial⟩
theorem num_in {l : List UInt8} {v : Int} (h : Wo.numO l = some v) {a b : Int} (ho : ¬ (v < a ∨ b < v)) : Wo.numV l a b = v ∧ Wo.numB l a b = true := by unfold Wo.numV Wo.numB; rw [h]; simp only [if_neg ho]; exact ⟨trivial, trivial⟩

set_option maxHeartbeats 2000000 in
theorem number_any (s : ByteArray) (least most : Int) (w : World) (hE : Env w) (hs : s.size ≤ 281474976710656) :
    Calls Tryz.prog 84 #[.string s, .int .i64 least, .int .i64 most] w (NumGive s.data.toList least most w) := by
  obtain ⟨t1, p1, h1⟩ := hE.syn
  obtain ⟨t2, p2, h2⟩ := hE.rng
  have HE := Lib.hid hE
  cases ha : Lib.atoiAll s.data.toList with
  | range =>
    obtain ⟨e1, e2⟩ := num_none (show Wo.numO s.data.toList = none by unfold Wo.numO; rw [ha]) least most
    have HN := Lib.hid (And.intro e1 e2)
    have HA := Lib.hid (Tryz.strconv_Atoi_range_var s hs ha t2 p2 w h2)
    clear ha h1 h2 hE e1 e2
    generalize Lib.atoiSat s.data.toList = sat at *
    go_enter Tryz.func84, Tryz.ntmps84
    go_wp2_with (first | (go_at_call 115; refine Calls.mono HA.out ?_; rintro e w1 ⟨N, rfl, -, -, hb⟩))
    go_ret2
    exact ⟨ret_vb HN.out.1.symm HN.out.2.symm, hb⟩
  | ok v =>
    obtain ⟨v0, v1⟩ := Lib.atoiAll_bounds ha
    have HA := Lib.hid (Tryz.strconv_Atoi_ok s (by omega) v ha w)
    have HI := Lib.hid (fun (W : World) (h : Env W) => itoa_any v W h v0 v1)
    by_cases hs' : Lib.itoa v = s.data.toList
    · have hn : Wo.numO s.data.toList = some v := by unfold Wo.numO; rw [ha]; simp only [if_pos hs']
      have es : (⟨(Lib.itoa v).toArray⟩ : ByteArray) = s := by rw [hs']
      have ES := Lib.hid es
      by_cases ho : v < least ∨ most < v
      · obtain ⟨e1, e2⟩ := num_out hn ho
        have HN := Lib.hid (And.intro e1 e2)
        clear ha h1 h2 hE e1 e2 hn es hs'
        rcases ho with ho | ho
        all_goals
          go_enter Tryz.func84, Tryz.ntmps84
          go_wp2_with (first | (go_at_call 115; refine Calls.mono HA.out ?_; rintro e w1 ⟨rfl, hw1⟩; have hb : Below w.heap.size w w1 := (by rcases hw1 with rfl | ⟨t, rfl⟩; (· exact Below.refl _ _); exact bytesWorld_below _ _ _); clear hw1) | (go_at_call 100; refine Calls.mono (HI.out _ (HE.out.below hb)) ?_; rintro e w2 ⟨rfl, hb2⟩; rw [ES.out]))
          all_goals
            go_ret2
            exact ⟨ret_vb HN.out.1.symm HN.out.2.symm, (hb.trans (hb2.mono hb.size))⟩
      · obtain ⟨e1, e2⟩ := num_in hn ho
        have HN := Lib.hid (And.intro e1 e2)
        have ho1 : ¬ v < least := fun h => ho (.inl h)
        have ho2 : ¬ most < v := fun h => ho (.inr h)
        clear ha h1 h2 hE e1 e2 hn es hs' ho
        go_enter Tryz.func84, Tryz.ntmps84
        go_wp2_with (first | (go_at_call 115; refine Calls.mono HA.out ?_; rintro e w1 ⟨rfl, hw1⟩; have hb : Below w.heap.size w w1 := (by rcases hw1 with rfl | ⟨t, rfl⟩; (· exact Below.refl _ _); exact bytesWorld_below _ _ _); clear hw1) | (go_at_call 100; refine Calls.mono (HI.out _ (HE.out.below hb)) ?_; rintro e w2 ⟨rfl, hb2⟩; rw [ES.out]))
        go_ret2
        exact ⟨ret_vb HN.out.1.symm HN.out.2.symm, (hb.trans (hb2.mono hb.size))⟩
    · have hn : Wo.numO s.data.toList = none := by unfold Wo.numO; rw [ha]; simp only [if_neg hs']
      obtain ⟨e1, e2⟩ := num_none hn least most
      have HN := Lib.hid (And.intro e1 e2)
      have es : ((⟨(Lib.itoa v).toArray⟩ : ByteArray).toList == s.toList) = false := sneq (by exact hs')
      clear ha h1 h2 hE e1 e2 hn hs'
      obtain ⟨sv, esv⟩ : ∃ x : ByteArray, (⟨(Lib.itoa v).toArray⟩ : ByteArray) = x := ⟨_, rfl⟩
      rw [esv] at es
      have ES := Lib.hid esv
      clear esv
      go_enter Tryz.func84, Tryz.ntmps84
      go_wp2_with (first | (go_at_call 115; refine Calls.mono HA.out ?_; rintro e w1 ⟨rfl, hw1⟩; have hb : Below w.heap.size w w1 := (by rcases hw1 with rfl | ⟨t, rfl⟩; (· exact Below.refl _ _); exact bytesWorld_below _ _ _); clear hw1) | (go_at_call 100; refine Calls.mono (HI.out _ (HE.out.below hb)) ?_; rintro e w2 ⟨rfl, hb2⟩; rw [ES.out]))
      go_ret2
      exact ⟨ret_vb HN.out.1.symm HN.out.2.symm, (hb.trans (hb2.mono hb.size))⟩
  | _ =>
    obtain ⟨e1, e2⟩ := num_none (show Wo.numO s.data.toList = none by unfold Wo.numO; rw [ha]) least most
    have HN := Lib.hid (And.intro e1 e2)
    have HA := Lib.hid (Tryz.strconv_Atoi_bad_var s hs (fun v e => by rw [ha] at e; cases e) (fun e => by rw [ha] at e; cases e) t1 p1 w h1)
    clear ha h1 h2 hE e1 e2
    go_enter Tryz.func84, Tryz.ntmps84
    go_wp2_with (first | (go_at_call 115; refine Calls.mono HA.out ?_; rintro e w1 ⟨N, rfl, -, -, hb⟩))
    go_ret2
    exact ⟨ret_vb HN.out.1.symm HN.out.2.symm, hb⟩

end Go.Proofs.YtflcdkibjakciaaGreatDoor

namespace Go.Proofs.YtflcdkibjakciaaGreatDoor
open Go.RowKit

theorem ret_str {a b : ByteArray} (h : a = b) : Ending.returned (.string a) = .returned (.string b) := by rw [h]

theorem itoa_small {n : Int} (h0 : 0 ≤ n) (h : n < 10) : Lib.itoa n = [Wo.dch (n.toNat)] := by
  unfold Lib.itoa
  rw [if_neg (by omega), Lib.decDigits, dif_pos (by omega)]
  rfl

theorem conv1 (W : World) (b d : Nat) (hd : d < 10) (h : W.cell? ⟨b, 0, none⟩ = some (.int .u8 (48 + (d : Int)))) : (convert 55 9 (.slice (some ⟨b, 0, none⟩) 1 1)).run Tryz.prog W = .ok (.string ⟨#[Wo.dch (d)]⟩) W := by
  have e : (Wo.dch d).toNat = 48 + d := Wo.dig_toNat d hd
  have := run_convert_bytes_back (P := Tryz.prog) W 55 9 5 ⟨b, 0, none⟩ 1 [Wo.dch (d)] Tryz.underlying55 Tryz.underlying5 Tryz.underlying9 (fun j hj => by
    match j, hj with
    | 0, _ =>
      show W.cell? ⟨b, 0, none⟩ = some (.int .u8 (((Wo.dch (d)).toNat : Nat) : Int))
      rw [h, e]; simp)
  exact this

theorem app1 (l : List UInt8) (c : UInt8) : (⟨l.toArray⟩ : ByteArray) ++ ⟨#[c]⟩ = ⟨(l ++ [c]).toArray⟩ := by rw [ByteArray.mk_append_mk]

theorem itoa_big {n : Int} (h : 10 ≤ n) : Lib.itoa n = Lib.itoa (n / 10) ++ [Wo.dch ((n % 10).toNat)] := by
  unfold Lib.itoa
  rw [if_neg (by omega), if_neg (by omega), Lib.decDigits, dif_neg (by omega)]
  have e1 : n.toNat / 10 = (n / 10).toNat := by omega
  have e2 : n.toNat % 10 = (n % 10).toNat := by omega
  rw [e1, e2]
  rfl

theorem itoa_neg1 {u : Nat} (h0 : 0 < u) (h : u < 10) : Lib.itoa (-(u : Int)) = [45, Wo.dch u] := by
  unfold Lib.itoa
  rw [if_pos (by omega), show (-(u : Int)).natAbs = u by omega, Lib.decDigits, dif_pos h]
  rfl

theorem itoa_neg2 {u : Nat} (h : 10 ≤ u) : Lib.itoa (-(u : Int)) = Lib.itoa (-((u / 10 : Nat) : Int)) ++ [Wo.dch (u % 10)] := by
  unfold Lib.itoa
  rw [if_pos (by omega), if_pos (by omega), show (-(u : Int)).natAbs = u by omega, show (-((u / 10 : Nat) : Int)).natAbs = u / 10 by omega, Lib.decDigits, dif_neg (by omega)]
  rfl

set_option maxRecDepth 100000 in
set_option maxHeartbeats 400000 in
theorem refdecimal_any (N : Nat) : ∀ (n : Int) (w : World), n.natAbs < N → -9223372036854775808 ≤ n → n ≤ 9223372036854775807 → Calls Tryz.prog 31 #[.int .i64 n] w (DecGive n w) := by
  induction N with
  | zero => intro n w h; omega
  | succ N ih =>
    intro n w h h0 h1
    by_cases hn : n < 0
    · by_cases h10 : -10 < n
      · obtain ⟨d, rfl⟩ : ∃ d : Nat, n = -(d : Int) := ⟨n.natAbs, by omega⟩
        have HS := Lib.hid (itoa_neg1 (u := d) (by omega) (by omega))
        have hb : IntKind.u8.wrap (48 + (d : Int)) = 48 + d := by rw [IntWalk.u8_in]; omega
        have hq2 : (-(d : Int)).tmod 10 = -(d : Int) := by rw [Int.neg_tmod, Int.tmod_eq_emod_of_nonneg (by omega)]; omega
        have CV := conv1 (w.alloc (Obj.cells #[.int .u8 (48 + (d : Int))] 5)) w.heap.size d (by omega) (by go_simp)
        clear ih h h0 h1
        go_enter Tryz.func31, Tryz.ntmps31
        go_wp2
        go_ret
        exact ⟨ret_str (by rw [HS.out]; rfl), (Below.refl _ _).alloc (Nat.le_refl _) _⟩
      · obtain ⟨q, m, rfl, hm10⟩ : ∃ q m : Nat, n = -((10 * q + m : Nat) : Int) ∧ m < 10 := ⟨n.natAbs / 10, n.natAbs % 10, by omega, by omega⟩
        have hd : Lib.itoa (-((10 * q + m : Nat) : Int)) = Lib.itoa (-(q : Int)) ++ [Wo.dch m] := by
          rw [itoa_neg2 (by omega), show (10 * q + m) / 10 = q by omega, show (10 * q + m) % 10 = m by omega]
        have HI := Lib.hid (fun (W : World) => ih (-(q : Int)) W (by omega) (by omega) (by omega))
        obtain ⟨sq, esq⟩ : ∃ x : ByteArray, (⟨(Lib.itoa (-(q : Int))).toArray⟩ : ByteArray) = x := ⟨_, rfl⟩
        have hsz : sq.size + 1 ≤ 9223372036854775807 := by
          have := (Wo.itoa_len20 (-(q : Int)) (by omega) (by omega)).2
          rw [← esq]; show (Lib.itoa (-(q : Int))).toArray.size + 1 ≤ _; simp; omega
        have ES := Lib.hid esq
        clear esq
        have HF := Lib.hid (show sq ++ ⟨#[Wo.dch m]⟩ = ⟨(Lib.itoa (-((10 * q + m : Nat) : Int))).toArray⟩ by rw [hd, ← ES.out, app1])
        have hq1 : (-((10 * q + m : Nat) : Int)).tdiv 10 = -(q : Int) := by rw [Int.neg_tdiv, Int.tdiv_eq_ediv_of_nonneg (by omega)]; omega
        have hq2 : (-((10 * q + m : Nat) : Int)).tmod 10 = -(m : Int) := by rw [Int.neg_tmod, Int.tmod_eq_emod_of_nonneg (by omega)]; omega
        have hq0 : (0 : Int) ≤ q := by omega
        obtain ⟨n, en⟩ : ∃ n : Int, -((10 * q + m : Nat) : Int) = n := ⟨_, rfl⟩
        have hb : IntKind.u8.wrap (48 + (m : Int)) = 48 + m := by rw [IntWalk.u8_in]; omega
        have hb2 : IntKind.i64.wrap (48 + (m : Int)) = 48 + m := IntWalk.i64_in _ ⟨by omega, by omega⟩
        have hb3 : IntKind.i64.wrap (-(q : Int)) = -(q : Int) := IntWalk.i64_in _ ⟨by omega, by omega⟩
        have hb4 : IntKind.i64.wrap (m : Int) = m := IntWalk.i64_in _ ⟨by omega, by omega⟩
        have hn' : n < 0 := by omega
        have h10' : ¬ -10 < n := by omega
        have CA := conv1 ((w.alloc (Obj.cells #[.int .u8 (48 + (m : Int))] 5)).drew) w.heap.size m hm10 (by go_simp)
        have CH : ((w.alloc (Obj.cells #[.int .u8 (48 + (m : Int))] 5)).drew).cell? ⟨w.heap.size, 0, none⟩ = some (.int .u8 (48 + (m : Int))) := by go_simp
        have HC := Lib.hid CH
        clear CH
        rw [en] at hd hq1 hq2 h0 h1
        rw [en] at HF
        rw [en]
        clear hd ih h en hn h10 h0 h1
        go_enter Tryz.func31, Tryz.ntmps31
        go_wp2_with fail
        go_region_with (first | (go_at_call 31; (with_reducible refine Calls.mono (HI.out w.drew) ?_); rintro e w1 ⟨rfl, hb1⟩; rw [ES.out]; have CW := conv1 (w1.alloc (Obj.cells #[.int .u8 (48 + (m : Int))] 5)) w1.heap.size m hm10 (by go_simp)) | (go_at_call 31; (with_reducible refine Calls.mono (HI.out ((w.alloc (Obj.cells #[.int .u8 (48 + (m : Int))] 5)).drew)) ?_); rintro e w1 ⟨rfl, hb1⟩; rw [ES.out]; have CW := conv1 w1 w.heap.size m hm10 ((hb1.cell (p := ⟨w.heap.size, 0, none⟩) (by simp)).trans HC.out)))
        all_goals
          go_wp2
          go_ret
          refine ⟨ret_str HF.out, ?_⟩
          first
            | exact ((Below.refl _ w).drew.trans (hb1.mono (Nat.le_refl _))).alloc (by have := hb1.size; simpa using this) _
            | exact (((Below.refl _ w).alloc (Nat.le_refl _) _).drew).trans (hb1.mono (by simp))
    · by_cases h10 : n < 10
      · obtain ⟨d, rfl⟩ : ∃ d : Nat, n = d := ⟨n.toNat, by omega⟩
        have HS := Lib.hid (itoa_small (n := d) (by omega) h10)
        have hb : IntKind.u8.wrap (48 + (d : Int)) = 48 + d := by rw [IntWalk.u8_in]; omega
        have CV := conv1 (w.alloc (Obj.cells #[.int .u8 (48 + (d : Int))] 5)) w.heap.size d (by omega) (by go_simp)
        clear ih h h0 h1
        go_enter Tryz.func31, Tryz.ntmps31
        go_wp2
        go_ret
        exact ⟨ret_str (by rw [HS.out]; rfl), (Below.refl _ _).alloc (Nat.le_refl _) _⟩
      · obtain ⟨q, m, rfl, hm10⟩ : ∃ q m : Nat, n = 10 * (q : Int) + m ∧ m < 10 := ⟨(n / 10).toNat, (n % 10).toNat, by omega, by omega⟩
        have hd : Lib.itoa (10 * (q : Int) + m) = Lib.itoa q ++ [Wo.dch m] := by
          rw [itoa_big (by omega), show (10 * (q : Int) + m) / 10 = q by omega, show ((10 * (q : Int) + m) % 10).toNat = m by omega]
        have HI := Lib.hid (fun (W : World) => ih (q : Int) W (by omega) (by omega) (by omega))
        obtain ⟨sq, esq⟩ : ∃ x : ByteArray, (⟨(Lib.itoa q).toArray⟩ : ByteArray) = x := ⟨_, rfl⟩
        have hsz : sq.size + 1 ≤ 9223372036854775807 := by
          have := (Wo.itoa_len20 (q : Int) (by omega) (by omega)).2
          rw [← esq]; show (Lib.itoa (q : Int)).toArray.size + 1 ≤ _; simp; omega
        have ES := Lib.hid esq
        clear esq
        have HF := Lib.hid (show sq ++ ⟨#[Wo.dch m]⟩ = ⟨(Lib.itoa (10 * (q : Int) + m)).toArray⟩ by rw [hd, ← ES.out, app1])
        have hq1 : (10 * (q : Int) + m).tdiv 10 = q := by rw [Int.tdiv_eq_ediv_of_nonneg (by omega)]; omega
        have hq2 : (10 * (q : Int) + m).tmod 10 = m := by rw [Int.tmod_eq_emod_of_nonneg (by omega)]; omega
        have hq0 : (0 : Int) ≤ q := by omega
        obtain ⟨n, en⟩ : ∃ n : Int, 10 * (q : Int) + m = n := ⟨_, rfl⟩
        have hb : IntKind.u8.wrap (48 + (m : Int)) = 48 + m := by rw [IntWalk.u8_in]; omega
        have hb2 : IntKind.i64.wrap (48 + (m : Int)) = 48 + m := IntWalk.i64_in _ ⟨by omega, by omega⟩
        have hb3 : IntKind.i64.wrap (q : Int) = q := IntWalk.i64_in _ ⟨by omega, by omega⟩
        have hb4 : IntKind.i64.wrap (m : Int) = m := IntWalk.i64_in _ ⟨by omega, by omega⟩
        have hn' : ¬ n < 0 := by omega
        have h10' : ¬ n < 10 := by omega
        have CA := conv1 ((w.alloc (Obj.cells #[.int .u8 (48 + (m : Int))] 5)).drew) w.heap.size m hm10 (by go_simp)
        have CH : ((w.alloc (Obj.cells #[.int .u8 (48 + (m : Int))] 5)).drew).cell? ⟨w.heap.size, 0, none⟩ = some (.int .u8 (48 + (m : Int))) := by go_simp
        have HC := Lib.hid CH
        clear CH
        rw [en] at hd hq1 hq2 h0 h1
        rw [en] at HF
        rw [en]
        clear hd ih h en hn h10 h0 h1
        go_enter Tryz.func31, Tryz.ntmps31
        go_wp2_with fail
        go_region_with (first | (go_at_call 31; (with_reducible refine Calls.mono (HI.out w.drew) ?_); rintro e w1 ⟨rfl, hb1⟩; rw [ES.out]; have CW := conv1 (w1.alloc (Obj.cells #[.int .u8 (48 + (m : Int))] 5)) w1.heap.size m hm10 (by go_simp)) | (go_at_call 31; (with_reducible refine Calls.mono (HI.out ((w.alloc (Obj.cells #[.int .u8 (48 + (m : Int))] 5)).drew)) ?_); rintro e w1 ⟨rfl, hb1⟩; rw [ES.out]; have CW := conv1 w1 w.heap.size m hm10 ((hb1.cell (p := ⟨w.heap.size, 0, none⟩) (by simp)).trans HC.out)))
        all_goals
          go_wp2
          go_ret
          refine ⟨ret_str HF.out, ?_⟩
          first
            | exact ((Below.refl _ w).drew.trans (hb1.mono (Nat.le_refl _))).alloc (by have := hb1.size; simpa using this) _
            | exact (((Below.refl _ w).alloc (Nat.le_refl _) _).drew).trans (hb1.mono (by simp))

end Go.Proofs.YtflcdkibjakciaaGreatDoor

namespace Go.Proofs.YtflcdkibjakciaaGreatDoor
open Go.RowKit

theorem w64_eq (x : Int) : IntKind.i64.wrap x = Wo.w64 x := by rw [IntKind.wrap_i64]; rfl

theorem wrap64_i (x : Int) : IntKind.i64.wrap x = wrap64 x := by rw [IntKind.wrap_i64]; unfold wrap64; rfl

theorem drop_take_self (l : List UInt8) (k : Nat) : (l.take k).drop k = [] := List.drop_of_length_le (List.length_take_le _ _)

theorem take_drop_snoc (s : ByteArray) (j k : Nat) (hk : k ≤ j) (h : j < s.size) : (s.data.toList.take (j + 1)).drop k = (s.data.toList.take j).drop k ++ [s[j]] := by
  have hl : s.data.toList.length = s.size := by rw [Array.length_toList]; rfl
  rw [Wo.take_snoc_bytes s j h, List.drop_append_of_le_length (by rw [List.length_take, hl]; omega)]

theorem bad_digit (s : ByteArray) (j k : Nat) (hk : k ≤ j) (h : j < s.size) (hd : Wo.digB s[j] = false) : (s.data.toList.drop k).all Wo.digB = false := by
  have hl : s.data.toList.length = s.size := by rw [Array.length_toList]; rfl
  rw [Bool.eq_false_iff]
  intro ha
  rw [List.all_eq_true] at ha
  have hm : s[j] ∈ s.data.toList.drop k := by
    rw [List.mem_drop_iff_getElem]
    exact ⟨j - k, by omega, by simp only [Nat.add_sub_cancel' hk]; rfl⟩
  rw [ha _ hm] at hd
  cases hd

theorem tail_neg (s : ByteArray) (h0 : 0 < s.size) (h : ((s[0]).toNat : Int) = 45) : Wo.tailN s.data.toList = s.data.toList.drop 1 ∧ Wo.negN s.data.toList = true := by
  have e : s.data.toList = s[0] :: s.data.toList.drop 1 := by
    have hl : s.data.toList.length = s.size := by rw [Array.length_toList]; rfl
    have := List.drop_eq_getElem_cons (l := s.data.toList) (i := 0) (by omega)
    rw [List.drop_zero] at this
    exact this
  have h' : (s[0]).toNat = 45 := by omega
  rw [e]
  simp only [Wo.tailN, Wo.negN, h', if_true, decide_true]
  exact ⟨rfl, trivial⟩

theorem tail_pos (s : ByteArray) (h0 : 0 < s.size) (h : ((s[0]).toNat : Int) ≠ 45) : Wo.tailN s.data.toList = s.data.toList.drop 0 ∧ Wo.negN s.data.toList = false := by
  have e : s.data.toList = s[0] :: s.data.toList.drop 1 := by
    have hl : s.data.toList.length = s.size := by rw [Array.length_toList]; rfl
    have := List.drop_eq_getElem_cons (l := s.data.toList) (i := 0) (by omega)
    rw [List.drop_zero] at this
    exact this
  have h' : ¬ (s[0]).toNat = 45 := by omega
  rw [e]
  simp only [Wo.tailN, Wo.negN, if_neg h', decide_eq_false h']
  exact ⟨rfl, trivial⟩

set_option maxHeartbeats 4000000 in
theorem refnumber_any (s : ByteArray) (least most : Int) (w : World) (hs : s.size ≤ 9223372036854775807) :
    Calls Tryz.prog 95 #[.string s, .int .i64 least, .int .i64 most] w (NumGive s.data.toList least most w) := by
  have hlen : s.data.toList.length = s.size := by rw [Array.length_toList]; rfl
  by_cases h1 : s.size = 0
  · have HN := Lib.hid (num_none (Wo.numO_long (l := s.data.toList) (.inl (by omega))) least most)
    have h1' : ((s.size : Int) == 0) = true := by rw [h1]; rfl
    clear h1 hlen
    go_enter Tryz.func95, Tryz.ntmps95
    go_wp2
    go_ret2
    exact ⟨ret_vb HN.out.1.symm HN.out.2.symm, Below.refl _ _⟩
  have g1 : ((s.size : Int) == 0) = false := by rw [beq_eq_false_iff_ne]; omega
  by_cases h2 : 20 < s.size
  · have HN := Lib.hid (num_none (Wo.numO_long (l := s.data.toList) (.inr (by omega))) least most)
    have h2' : (20 : Int) < (s.size : Int) := by omega
    clear h1 h2 hlen
    go_enter Tryz.func95, Tryz.ntmps95
    go_wp2
    go_ret2
    exact ⟨ret_vb HN.out.1.symm HN.out.2.symm, Below.refl _ _⟩
  have g2 : ¬ (20 : Int) < (s.size : Int) := by omega
  have h0 : 0 < s.size := by omega
  by_cases h45 : ((s[0]).toNat : Int) = 45
  · obtain ⟨ht, hm⟩ := tail_neg s h0 h45
    have HT := Lib.hid ht
    have HM := Lib.hid hm
    have b45 : (((s[0]).toNat : Int) == 45) = true := by rw [h45]; rfl
    clear ht hm h45 hlen h1 h2
    go_enter Tryz.func95, Tryz.ntmps95
    go_wp2
    clear b45
    go_loop [8, 10] (fun n i => ∃ j : Nat, 1 ≤ j ∧ j ≤ s.size ∧ i = .int .i64 j ∧ n = .int .i64 (Wo.foldN true ((s.data.toList.take j).drop 1)) ∧ ((s.data.toList.take j).drop 1).all Wo.digB = true) (fun _ i => s.size - (intOf i).toNat)
    case atStart => exact ⟨1, Nat.le_refl _, by omega, rfl, by rw [drop_take_self]; rfl, by rw [drop_take_self]; rfl⟩
    case round =>
      obtain ⟨j, hj0, hj, rfl, rfl, hall⟩ := hrel
      have HA := Lib.hid hall
      have hjI : (0 : Int) ≤ (j : Int) := Int.natCast_nonneg _
      obtain ⟨v, ev⟩ : ∃ x, Wo.foldN true ((s.data.toList.take j).drop 1) = x := ⟨_, rfl⟩
      have hv := Wo.foldN_bd true ((s.data.toList.take j).drop 1)
      rw [ev] at hv
      obtain ⟨v0, v1⟩ := hv
      rw [ev]
      have EV := Lib.hid ev
      clear ev hall
      by_cases hlt : j < s.size
      · have hsn := take_drop_snoc s j 1 hj0 hlt
        have HS := Lib.hid hsn
        clear hsn
        by_cases c1 : 48 ≤ ((s[j]).toNat : Int) ∧ ((s[j]).toNat : Int) ≤ 57
        · obtain ⟨c1, c2⟩ := c1
          have hd : Wo.digB s[j] = true := by simp only [Wo.digB, Bool.and_eq_true, decide_eq_true_eq]; exact ⟨c1, c2⟩
          have hu : IntKind.u8.wrap (((s[j]).toNat : Int) - 48) = ((s[j]).toNat : Int) - 48 := by rw [IntWalk.u8_in]; omega
          have HF := Lib.hid (show Wo.foldN true ((s.data.toList.take (j + 1)).drop 1) = IntKind.i64.wrap (IntKind.i64.wrap (10 * v) - (((s[j]).toNat : Int) - 48)) by
            rw [HS.out, Wo.foldN_snoc, EV.out, w64_eq, w64_eq]; rfl)
          have HG := Lib.hid (show ((s.data.toList.take (j + 1)).drop 1).all Wo.digB = true by rw [HS.out, List.all_append, HA.out, Bool.true_and]; simp [hd])
          clear hd
          go_wp2
          go_round
          case rel => exact ⟨j + 1, by omega, by omega, by go_num, by rw [HF.out, wrap64_i, wrap64_i], HG.out⟩
          case measure => simp [intOf]; omega
        · have HB := Lib.hid (show Wo.numO s.data.toList = none from Wo.numO_bad (by
            rw [HT.out]
            have hd : Wo.digB s[j] = false := by simp only [Wo.digB, Bool.and_eq_false_iff, decide_eq_false_iff_not]; omega
            exact bad_digit s j 1 hj0 hlt hd))
          have c1' : ((s[j]).toNat : Int) < 48 ∨ 57 < ((s[j]).toNat : Int) := by omega
          clear c1
          rcases c1' with c1 | c1
          all_goals
            go_wp2
            go_ret2
            exact ⟨ret_vb (num_none HB.out _ _).1.symm (num_none HB.out _ _).2.symm, Below.refl _ _⟩
      · obtain rfl : j = s.size := by omega
        have HV := Lib.hid (show Wo.foldN (Wo.negN s.data.toList) (Wo.tailN s.data.toList) = v by
          rw [HT.out, HM.out, ← EV.out, List.take_of_length_le (by rw [Array.length_toList]; exact Nat.le_refl _)])
        have HI := Lib.hid (fun (W : World) => refdecimal_any (v.natAbs + 1) v W (by omega) v0 v1)
        have hf := Wo.numO_fold s.data.toList
        rw [HV.out] at hf
        by_cases he : Lib.itoa v = s.data.toList
        · rw [if_pos he] at hf
          have es : (⟨(Lib.itoa v).toArray⟩ : ByteArray) = s := by rw [he]
          have ES := Lib.hid es
          have HF := Lib.hid hf
          clear hf he es
          by_cases ho : v < least ∨ most < v
          · have HN := Lib.hid (num_out HF.out ho)
            rcases ho with ho | ho
            all_goals
              go_wp2_with (first | (go_at_call 31; refine Calls.mono (HI.out _) ?_; rintro e w2 ⟨rfl, hb2⟩; rw [ES.out]))
              all_goals
                go_ret2
                exact ⟨ret_vb HN.out.1.symm HN.out.2.symm, hb2⟩
          · have HN := Lib.hid (num_in HF.out ho)
            have ho1 : ¬ v < least := fun h => ho (.inl h)
            have ho2 : ¬ most < v := fun h => ho (.inr h)
            clear ho
            go_wp2_with (first | (go_at_call 31; refine Calls.mono (HI.out _) ?_; rintro e w2 ⟨rfl, hb2⟩; rw [ES.out]))
            go_ret2
            exact ⟨ret_vb HN.out.1.symm HN.out.2.symm, hb2⟩
        · rw [if_neg he] at hf
          have HN := Lib.hid (num_none hf least most)
          have es : ((⟨(Lib.itoa v).toArray⟩ : ByteArray).toList == s.toList) = false := sneq (by exact he)
          clear hf he
          obtain ⟨sv, esv⟩ : ∃ x : ByteArray, (⟨(Lib.itoa v).toArray⟩ : ByteArray) = x := ⟨_, rfl⟩
          rw [esv] at es
          have ES := Lib.hid esv
          clear esv
          go_wp2_with (first | (go_at_call 31; refine Calls.mono (HI.out _) ?_; rintro e w2 ⟨rfl, hb2⟩; rw [ES.out]))
          go_ret2
          exact ⟨ret_vb HN.out.1.symm HN.out.2.symm, hb2⟩
  · obtain ⟨ht, hm⟩ := tail_pos s h0 h45
    have HT := Lib.hid ht
    have HM := Lib.hid hm
    have b45 : (((s[0]).toNat : Int) == 45) = false := beq_eq_false_iff_ne.2 h45
    clear ht hm h45 hlen h1 h2
    go_enter Tryz.func95, Tryz.ntmps95
    go_wp2
    clear b45
    go_loop [8, 10] (fun n i => ∃ j : Nat, 0 ≤ j ∧ j ≤ s.size ∧ i = .int .i64 j ∧ n = .int .i64 (Wo.foldN false ((s.data.toList.take j).drop 0)) ∧ ((s.data.toList.take j).drop 0).all Wo.digB = true) (fun _ i => s.size - (intOf i).toNat)
    case atStart => exact ⟨0, Nat.le_refl _, by omega, rfl, by rw [drop_take_self]; rfl, by rw [drop_take_self]; rfl⟩
    case round =>
      obtain ⟨j, hj0, hj, rfl, rfl, hall⟩ := hrel
      have HA := Lib.hid hall
      have hjI : (0 : Int) ≤ (j : Int) := Int.natCast_nonneg _
      obtain ⟨v, ev⟩ : ∃ x, Wo.foldN false ((s.data.toList.take j).drop 0) = x := ⟨_, rfl⟩
      have hv := Wo.foldN_bd false ((s.data.toList.take j).drop 0)
      rw [ev] at hv
      obtain ⟨v0, v1⟩ := hv
      rw [ev]
      have EV := Lib.hid ev
      clear ev hall
      by_cases hlt : j < s.size
      · have hsn := take_drop_snoc s j 0 hj0 hlt
        have HS := Lib.hid hsn
        clear hsn
        by_cases c1 : 48 ≤ ((s[j]).toNat : Int) ∧ ((s[j]).toNat : Int) ≤ 57
        · obtain ⟨c1, c2⟩ := c1
          have hd : Wo.digB s[j] = true := by simp only [Wo.digB, Bool.and_eq_true, decide_eq_true_eq]; exact ⟨c1, c2⟩
          have hu : IntKind.u8.wrap (((s[j]).toNat : Int) - 48) = ((s[j]).toNat : Int) - 48 := by rw [IntWalk.u8_in]; omega
          have HF := Lib.hid (show Wo.foldN false ((s.data.toList.take (j + 1)).drop 0) = IntKind.i64.wrap (IntKind.i64.wrap (10 * v) + (((s[j]).toNat : Int) - 48)) by
            rw [HS.out, Wo.foldN_snoc, EV.out, w64_eq, w64_eq]; rfl)
          have HG := Lib.hid (show ((s.data.toList.take (j + 1)).drop 0).all Wo.digB = true by rw [HS.out, List.all_append, HA.out, Bool.true_and]; simp [hd])
          clear hd
          go_wp2
          go_round
          case rel => exact ⟨j + 1, by omega, by omega, by go_num, by rw [HF.out, wrap64_i, wrap64_i], HG.out⟩
          case measure => simp [intOf]; omega
        · have HB := Lib.hid (show Wo.numO s.data.toList = none from Wo.numO_bad (by
            rw [HT.out]
            have hd : Wo.digB s[j] = false := by simp only [Wo.digB, Bool.and_eq_false_iff, decide_eq_false_iff_not]; omega
            exact bad_digit s j 0 hj0 hlt hd))
          have c1' : ((s[j]).toNat : Int) < 48 ∨ 57 < ((s[j]).toNat : Int) := by omega
          clear c1
          rcases c1' with c1 | c1
          all_goals
            go_wp2
            go_ret2
            exact ⟨ret_vb (num_none HB.out _ _).1.symm (num_none HB.out _ _).2.symm, Below.refl _ _⟩
      · obtain rfl : j = s.size := by omega
        have HV := Lib.hid (show Wo.foldN (Wo.negN s.data.toList) (Wo.tailN s.data.toList) = v by
          rw [HT.out, HM.out, ← EV.out, List.take_of_length_le (by rw [Array.length_toList]; exact Nat.le_refl _)])
        have HI := Lib.hid (fun (W : World) => refdecimal_any (v.natAbs + 1) v W (by omega) v0 v1)
        have hf := Wo.numO_fold s.data.toList
        rw [HV.out] at hf
        by_cases he : Lib.itoa v = s.data.toList
        · rw [if_pos he] at hf
          have es : (⟨(Lib.itoa v).toArray⟩ : ByteArray) = s := by rw [he]
          have ES := Lib.hid es
          have HF := Lib.hid hf
          clear hf he es
          by_cases ho : v < least ∨ most < v
          · have HN := Lib.hid (num_out HF.out ho)
            rcases ho with ho | ho
            all_goals
              go_wp2_with (first | (go_at_call 31; refine Calls.mono (HI.out _) ?_; rintro e w2 ⟨rfl, hb2⟩; rw [ES.out]))
              all_goals
                go_ret2
                exact ⟨ret_vb HN.out.1.symm HN.out.2.symm, hb2⟩
          · have HN := Lib.hid (num_in HF.out ho)
            have ho1 : ¬ v < least := fun h => ho (.inl h)
            have ho2 : ¬ most < v := fun h => ho (.inr h)
            clear ho
            go_wp2_with (first | (go_at_call 31; refine Calls.mono (HI.out _) ?_; rintro e w2 ⟨rfl, hb2⟩; rw [ES.out]))
            go_ret2
            exact ⟨ret_vb HN.out.1.symm HN.out.2.symm, hb2⟩
        · rw [if_neg he] at hf
          have HN := Lib.hid (num_none hf least most)
          have es : ((⟨(Lib.itoa v).toArray⟩ : ByteArray).toList == s.toList) = false := sneq (by exact he)
          clear hf he
          obtain ⟨sv, esv⟩ : ∃ x : ByteArray, (⟨(Lib.itoa v).toArray⟩ : ByteArray) = x := ⟨_, rfl⟩
          rw [esv] at es
          have ES := Lib.hid esv
          clear esv
          go_wp2_with (first | (go_at_call 31; refine Calls.mono (HI.out _) ?_; rintro e w2 ⟨rfl, hb2⟩; rw [ES.out]))
          go_ret2
          exact ⟨ret_vb HN.out.1.symm HN.out.2.symm, hb2⟩

end Go.Proofs.YtflcdkibjakciaaGreatDoor

namespace Go.Proofs.YtflcdkibjakciaaGreatDoor
open Go.RowKit

/-- A string's cell. -/
def SB : Shape ByteArray := ⟨1, fun s => [.string s], fun _ => rfl, by decide, fun a u hu => by
  simp only [List.mem_singleton] at hu
  subst hu
  rfl⟩

/-- A slice that lies in memory: its address, its length and its capacity. -/
structure Hd where
  p : Option Addr
  n : Nat
  c : Nat

instance : Inhabited Hd := ⟨⟨none, 0, 0⟩⟩

/-- A slice's cell. -/
def SH : Shape Hd := ⟨1, fun h => [.slice h.p h.n h.c], fun _ => rfl, by decide, fun a u hu => by
  simp only [List.mem_singleton] at hu
  subst hu
  rfl⟩

theorem el_str : Elem SB Tryz.prog 9 56 16 := by
  have h : (Tryz.prog.info? 9).map (fun i => (i.zero, i.size, i.bytes)) = some (some (.string ByteArray.empty), 1, 16) := by kernel_rfl
  obtain ⟨i0, h1, h2, h3, h4⟩ := info_parts h
  exact ⟨⟨i0, _, h1, h2, h3, h4, rfl⟩, Tryz.underlying56⟩

theorem el_row : Elem SH Tryz.prog 56 67 24 := by
  have h : (Tryz.prog.info? 56).map (fun i => (i.zero, i.size, i.bytes)) = some (some (.slice none 0 0), 1, 24) := by kernel_rfl
  obtain ⟨i0, h1, h2, h3, h4⟩ := info_parts h
  exact ⟨⟨i0, _, h1, h2, h3, h4, rfl⟩, Tryz.underlying67⟩

/-- A text of bytes. -/
def bs (l : List UInt8) : ByteArray := ⟨l.toArray⟩

/-- A row of words lies at a slice. -/
def WordsAt (w : World) (h : Hd) (ws : List ByteArray) : Prop := h.n = ws.length ∧ Recs SB w h.p ws ∧ (h.p = none → h.c = 0) ∧ h.n ≤ h.c

/-- Lines of words lie at a slice of slices. -/
def LinesAt (w : World) (p : Option Addr) (LL : List (List ByteArray)) : Prop :=
  ∃ H : List Hd, H.length = LL.length ∧ Recs SH w p H ∧ ∀ k (hk : k < H.length) (hk' : k < LL.length), WordsAt w H[k] LL[k]

theorem WordsAt.below {w w' : World} {h : Hd} {ws : List ByteArray} (hh : WordsAt w h ws) (hb : Below w.heap.size w w') : WordsAt w' h ws :=
  ⟨hh.1, hh.2.1.below hb, hh.2.2⟩

theorem LinesAt.below {w w' : World} {p : Option Addr} {LL : List (List ByteArray)} (h : LinesAt w p LL) (hb : Below w.heap.size w w') : LinesAt w' p LL := by
  obtain ⟨H, h1, h2, h3⟩ := h
  exact ⟨H, h1, h2.below hb, fun k hk hk' => (h3 k hk hk').below hb⟩

/-- Line k. -/
theorem LinesAt.at {w : World} {p : Option Addr} {LL : List (List ByteArray)} (h : LinesAt w p LL) {k : Nat} (hk : k < LL.length) :
    ∃ b off q n c, p = some ⟨b, off, none⟩ ∧ b < w.heap.size ∧ w.cell? ⟨b, off + k, none⟩ = some (.slice q n c) ∧ n = LL[k].length ∧ Recs SB w q LL[k] ∧ (q = none → c = 0) ∧ n ≤ c := by
  obtain ⟨H, h1, h2, h3⟩ := h
  obtain ⟨b, off, hp, hl, hc⟩ := h2.at (k := k) (by omega)
  obtain ⟨e, hr, hn, hle⟩ := h3 k (by omega) hk
  refine ⟨b, off, H[k].p, H[k].n, H[k].c, hp, hl, ?_, e, hr, hn, hle⟩
  have := hc 0 _ rfl
  simpa [SH] using this

/-- Word j of a row. -/
theorem Recs.word {w : World} {q : Option Addr} {ws : List ByteArray} (h : Recs SB w q ws) {j : Nat} (hj : j < ws.length) : ∃ b off, q = some ⟨b, off, none⟩ ∧ b < w.heap.size ∧ w.cell? ⟨b, off + j, none⟩ = some (.string ws[j]) := by
  obtain ⟨b, off, hp, hl, hc⟩ := h.at hj
  exact ⟨b, off, hp, hl, by have := hc 0 _ rfl; simpa [SB] using this⟩

end Go.Proofs.YtflcdkibjakciaaGreatDoor
