/-
  THE WALK over (*keep.Tape).Crops.
-/
import Derived.Test.YtcghhagnibabeaaGreatDoorK13
import Derived.Test.YtcghhagnibabeaaGreatDoorTb
import Derived.Test.YtcghhagnibabeaaGreatDoorKp
import Derived.Test.YtcghhagnibabeaaGreatDoorMB
namespace Go.Proofs.YtcghhagnibabeaaGreatDoor
open Go.RowKit Cr

/-- The names, in order. -/
def namesL : List ByteArray := [⟨#[98, 97, 114, 108, 101, 121]⟩, ⟨#[99, 108, 111, 118, 101, 114]⟩, ⟨#[103, 114, 97, 115, 115]⟩, ⟨#[109, 97, 105, 122, 101]⟩, ⟨#[111, 97, 116, 115]⟩, ⟨#[114, 121, 101]⟩, ⟨#[118, 101, 116, 99, 104]⟩, ⟨#[119, 104, 101, 97, 116]⟩]

theorem names_ok : ∀ i, i < 8 → Wo.nameB (namesL.getD i ⟨#[]⟩).data.toList = true := by decide +kernel
theorem names_asc : ∀ i, i < 7 → (namesL.getD i ⟨#[]⟩).data.toList < (namesL.getD (i + 1) ⟨#[]⟩).data.toList := by decide +kernel

/-- What a tape makes: crops with the first names. -/
structure Nice (L : List Crp) (k : Nat) : Prop where
  len : L.length = k
  nm : ∀ i (h : i < L.length), L[i].nm = namesL.getD i ⟨#[]⟩
  fam : ∀ c ∈ L, 0 ≤ c.fam ∧ c.fam ≤ 2
  mrk : ∀ c ∈ L, 0 ≤ c.mrk ∧ c.mrk ≤ 31

theorem Nice.nil : Nice [] 0 := ⟨rfl, (fun i h => by simp at h), (fun c h => by cases h), (fun c h => by cases h)⟩

theorem Nice.snoc {L : List Crp} {k : Nat} (h : Nice L k) {nm : ByteArray} {fam mk : Int} (h1 : nm = namesL.getD k ⟨#[]⟩) (h2 : 0 ≤ fam ∧ fam ≤ 2) (h3 : 0 ≤ mk ∧ mk ≤ 31) : Nice (L ++ [⟨nm, fam, mk⟩]) (k + 1) := by
  refine ⟨by rw [List.length_append, h.len]; rfl, fun i hi => ?_, fun c hc => ?_, fun c hc => ?_⟩
  · by_cases hl : i < L.length
    · rw [List.getElem_append_left hl]; exact h.nm i hl
    · have : i = L.length := by rw [List.length_append] at hi; simp at hi; omega
      subst this
      rw [List.getElem_append_right (Nat.le_refl _)]
      simp only [Nat.sub_self, List.getElem_cons_zero]
      rw [h1, h.len]
  · rcases List.mem_append.1 hc with hc | hc
    · exact h.fam c hc
    · obtain rfl := List.mem_singleton.1 hc; exact h2
  · rcases List.mem_append.1 hc with hc | hc
    · exact h.mrk c hc
    · obtain rfl := List.mem_singleton.1 hc; exact h3

theorem Nice.right {L : List Crp} {k : Nat} (h : Nice L k) (hk : k ≤ 8) : Right L := by
  refine ⟨by rw [h.len]; omega, fun c hc => ?_, fun i hi => ?_⟩
  · obtain ⟨i, hi, rfl⟩ := List.mem_iff_getElem.1 hc
    refine one_of ?_ ⟨(h.fam _ hc).1, by have := (h.fam _ hc).2; omega⟩ (h.mrk _ hc)
    rw [h.nm i hi]
    exact names_ok i (by have := h.len; omega)
  · rw [h.nm i (by omega), h.nm (i + 1) hi, lt_iff]
    exact names_asc i (by have := h.len; omega)

theorem mark_lit (W : World) (j : Nat) (hj : j < 8) : ∃ m : Nat, m ≤ 31 ∧ (W.alloc (.cells #[.int .i64 0, .int .i64 0, .int .i64 0, .int .i64 2, .int .i64 20, .int .i64 8, .int .i64 1, .int .i64 31] 3)).cell? ⟨W.heap.size, j, none⟩ = some (.int .i64 (m : Int)) := by
  match j, hj with
  | 0, _ => exact ⟨0, (by decide), World.cell?_alloc_new _ _ _ _⟩
  | 1, _ => exact ⟨0, (by decide), World.cell?_alloc_new _ _ _ _⟩
  | 2, _ => exact ⟨0, (by decide), World.cell?_alloc_new _ _ _ _⟩
  | 3, _ => exact ⟨2, (by decide), World.cell?_alloc_new _ _ _ _⟩
  | 4, _ => exact ⟨20, (by decide), World.cell?_alloc_new _ _ _ _⟩
  | 5, _ => exact ⟨8, (by decide), World.cell?_alloc_new _ _ _ _⟩
  | 6, _ => exact ⟨1, (by decide), World.cell?_alloc_new _ _ _ _⟩
  | 7, _ => exact ⟨31, (by decide), World.cell?_alloc_new _ _ _ _⟩

def CropsGive (t : Nat) (l : List Int) (w : World) (e : Ending) (w' : World) : Prop :=
  ∃ (p : Option Addr) (n c : Nat) (L : List Crp) (q : Nat), e = .returned (.slice p n c) ∧ OwnR SC w' 31 (w.heap.size + 1) (.slice p n c) L ∧ Nice L n ∧ 3 ≤ n ∧ n ≤ 8 ∧ TapeAt w' t l q ∧ But t w w'

theorem But.stpB {t B : Nat} {a b c : World} (h : But t a b) (hb : Below B b c) (hB : a.heap.size ≤ B) : But t a c :=
  ⟨hb.os.trans h.os, hb.tape.trans h.tape, hb.output.trans h.output, Nat.le_trans h.size hb.size, fun k hk hne => (hb.block k (Nat.lt_of_lt_of_le hk hB)).trans (h.block k hk hne)⟩

/-- Behind some crops of a tape. -/
structure CSt (t : Nat) (l : List Int) (w wr : World) (v : Value) (L : List Crp) (k q : Nat) : Prop where
  own : OwnR SC wr 31 (w.heap.size + 1) v L
  nice : Nice L k
  names : Recs SB wr (some ⟨w.heap.size, 0, none⟩) namesL
  tape : TapeAt wr t l q
  but : But t w wr
  lt : w.heap.size < wr.heap.size

set_option maxRecDepth 100000 in
set_option maxHeartbeats 8000000 in
theorem crops_any (t : Nat) (l : List Int) (q0 : Nat) (w : World) (h : TapeAt w t l q0) : Calls Tryz.prog 9 #[.pointer (some ⟨t, 0, none⟩)] w (CropsGive t l w) := by
  have htl := h.lt
  have hA : Below w.heap.size w (w.alloc (.cells #[.string ⟨#[98, 97, 114, 108, 101, 121]⟩, .string ⟨#[99, 108, 111, 118, 101, 114]⟩, .string ⟨#[103, 114, 97, 115, 115]⟩, .string ⟨#[109, 97, 105, 122, 101]⟩, .string ⟨#[111, 97, 116, 115]⟩, .string ⟨#[114, 121, 101]⟩, .string ⟨#[118, 101, 116, 99, 104]⟩, .string ⟨#[119, 104, 101, 97, 116]⟩] 9)) := (Below.refl _ _).alloc (Nat.le_refl _) _
  have hN : Recs SB (w.alloc (.cells #[.string ⟨#[98, 97, 114, 108, 101, 121]⟩, .string ⟨#[99, 108, 111, 118, 101, 114]⟩, .string ⟨#[103, 114, 97, 115, 115]⟩, .string ⟨#[109, 97, 105, 122, 101]⟩, .string ⟨#[111, 97, 116, 115]⟩, .string ⟨#[114, 121, 101]⟩, .string ⟨#[118, 101, 116, 99, 104]⟩, .string ⟨#[119, 104, 101, 97, 116]⟩] 9)) (some ⟨w.heap.size, 0, none⟩) namesL := by
    have := Recs.lit (S := SB) w 9 namesL (by show 8 ≤ _; unfold maxLen; omega)
    exact this
  obtain ⟨gn, en⟩ : ∃ g, gives l q0 6 = g := ⟨_, rfl⟩
  obtain ⟨n1, n2⟩ := gives_bd l q0 (n := 6) (by omega)
  rw [en] at n1 n2
  obtain ⟨N, rfl⟩ : ∃ N : Nat, gn = (N : Int) := Int.eq_ofNat_of_zero_le n1
  have RG := Lib.hid (show ∀ W, TapeAt W t l q0 → Calls Tryz.prog 30 #[.pointer (some ⟨t, 0, none⟩), .int .i64 3, .int .i64 8] W (fun e w' => e = .returned (.int .i64 (3 + (N : Int))) ∧ TapeAt w' t l (taken l q0) ∧ But t W w') from fun W hW => by
    have := range_any t l q0 3 8 W hW (by omega) (by omega) (by omega)
    rw [show (8 : Int) - 3 + 1 = 6 from rfl, en] at this
    exact this)
  have HT := Lib.hid (h.below hA)
  have HN := Lib.hid hN
  have HB := Lib.hid (But.of_below (t := t) hA)
  obtain ⟨q1, eq1⟩ : ∃ x, taken l q0 = x := ⟨_, rfl⟩
  rw [eq1] at RG
  have hn0 : (0 : Int) ≤ 3 + (N : Int) := by omega
  have hn8 : 3 + (N : Int) ≤ 8 := by omega
  clear h hA hN en eq1 n1
  go_enter Tryz.func9, Tryz.ntmps9
  go_wp2_with (first | (go_at_call 30; (with_reducible refine Calls.mono (RG.out _ HT.out) ?_); rintro e w2 ⟨rfl, ht2, hb2⟩) | fail)
  have ST := Lib.hid (show CSt t l w w2 (.slice none 0 0) [] 0 q1 from ⟨OwnR.nil _ _ _, Nice.nil, HN.out.but hb2 (fun a e => by cases e; show w.heap.size ≠ t; omega), ht2, HB.out.trans hb2, by have := hb2.size; rw [World.size_alloc] at this; omega⟩)
  clear ht2 hb2 RG HN HB HT
  go_loopw [4, 13] (fun v i wr => ∃ (k : Nat) (L : List Crp) (q : Nat), k ≤ 3 + N ∧ i = .int .i64 k ∧ CSt t l w wr v L k q) (fun _ i _ => 3 + N - (intOf i).toNat)
  case atStart => exact ⟨0, [], q1, Nat.zero_le _, rfl, ST.out⟩
  case round =>
    clear ST
    obtain ⟨wo, rfl⟩ : ∃ wo : World, wo = wr := ⟨_, rfl⟩
    obtain ⟨k, L, q, hk, rfl, hS⟩ := hrel
    have HS := Lib.hid hS
    have hk0 : (0 : Int) ≤ (k : Int) := Int.natCast_nonneg _
    by_cases hlt : k < 3 + N
    · have hk1 : (k : Int) < 3 + (N : Int) := by omega
      have hk8 : k < 8 := by omega
      obtain ⟨b, o, e, -, hc⟩ := hS.names.word (j := k) (by show k < 8; exact hk8)
      cases e
      rw [Nat.zero_add] at hc
      obtain ⟨nm, enm⟩ : ∃ x, namesL[k]'(by show k < 8; exact hk8) = x := ⟨_, rfl⟩
      rw [enm] at hc
      have HNM := Lib.hid (show nm = namesL.getD k ⟨#[]⟩ by rw [← enm, List.getD_eq_getElem?_getD, List.getElem?_eq_getElem]; rfl)
      obtain ⟨ga, ea⟩ : ∃ g, gives l q 3 = g := ⟨_, rfl⟩
      obtain ⟨a1, a2⟩ := gives_bd l q (n := 3) (by omega)
      rw [ea] at a1 a2
      obtain ⟨q2, eq2⟩ : ∃ x, taken l q = x := ⟨_, rfl⟩
      obtain ⟨gb, eb⟩ : ∃ g, gives l q2 8 = g := ⟨_, rfl⟩
      obtain ⟨b1, b2⟩ := gives_bd l q2 (n := 8) (by omega)
      rw [eb] at b1 b2
      obtain ⟨gm, rfl⟩ : ∃ m : Nat, gb = (m : Int) := Int.eq_ofNat_of_zero_le b1
      obtain ⟨q3, eq3⟩ : ∃ x, taken l q2 = x := ⟨_, rfl⟩
      have TA := Lib.hid (fun (W : World) (h : TapeAt W t l q) => eq2 ▸ ea ▸ next_any t l q 3 W h (by omega))
      have TB := Lib.hid (fun (W : World) (h : TapeAt W t l q2) => eq3 ▸ eb ▸ next_any t l q2 8 W h (by omega))
      have hLl : L.length = k := hS.nice.len
      have hlo := hS.lt
      clear enm ea eb eq2 eq3 b1 hS
      go_wp2_with fail
      (with_reducible refine Calls.mono (TA.out _ HS.out.tape) ?_)
      rintro e w3 ⟨rfl, ht3, hb3⟩
      have HB3 := Lib.hid hb3
      have hs3 := hb3.size
      obtain ⟨mm, hm1, hmc⟩ := mark_lit w3 gm (by omega)
      have HA3 := Lib.hid ((Below.refl w3.heap.size w3).alloc (Nat.le_refl _) (.cells #[.int .i64 0, .int .i64 0, .int .i64 0, .int .i64 2, .int .i64 20, .int .i64 8, .int .i64 1, .int .i64 31] 3))
      have HT3 := Lib.hid (ht3.below HA3.out)
      have HMC := Lib.hid hmc
      clear ht3 hb3 hmc
      go_wp2_with fail
      (with_reducible refine Calls.mono (TB.out _ HT3.out) ?_)
      rintro e w4 ⟨rfl, ht4, hb4⟩
      have hs4 := hb4.size
      rw [World.size_alloc] at hs4
      have hmk := (hb4.cell (p := ⟨w3.heap.size, gm, none⟩) (by simp) (by show w3.heap.size ≠ t; omega)).trans HMC.out
      have HB4 := Lib.hid ((HB3.out.nxt HA3.out).trans hb4)
      have HT4 := Lib.hid ht4
      have HO4 := Lib.hid (HS.out.own.but HB4.out (by omega))
      have HN4 := Lib.hid (HS.out.names.but HB4.out (fun a e => by cases e; show w.heap.size ≠ t; omega))
      have HB04 := Lib.hid (HS.out.but.trans HB4.out)
      have HNI := Lib.hid (HS.out.nice.snoc HNM.out ⟨a1, by omega⟩ (show 0 ≤ (mm : Int) ∧ (mm : Int) ≤ 31 by omega))
      have hsz4 : w.heap.size + 1 ≤ w4.heap.size := by omega
      clear hb4 ht4 a1 a2 hm1
      go_wp2_with (first | (at_builtin; (refine OwnR.append el_crp rfl (.tmp 17) (.tmp 27) rfl (w.heap.size + 1) _ L ⟨nm, ga, (mm : Int)⟩ #[.string nm, .int .i64 ga, .int .i64 (mm : Int)] rfl HO4.out rfl (by simp [Act.eval]) hsz4 (by omega) (by decide) ?_); intro v5 w5 hO5 hap5) | fail)
      have HF := Lib.hid (show CSt t l w w5 v5 (L ++ [⟨nm, ga, (mm : Int)⟩]) (k + 1) q3 from ⟨hO5, HNI.out, HN4.out.far hap5 (fun a e => by cases e; intro e2; have := (HO4.out.lt e2).1; simp at this; omega), HT4.out.belowB hap5.below (by omega), HB04.out.stpB hap5.below (by omega), Nat.lt_of_lt_of_le (by omega) hap5.size⟩)
      go_wp2
      go_roundw
      case rel => exact ⟨k + 1, _, q3, by omega, by go_num, HF.out⟩
      case measure => simp [intOf]; omega
    · obtain rfl : k = 3 + N := by omega
      obtain ⟨p, c, rfl, -⟩ := hS.own.cut hS.nice.len
      have HF := Lib.hid (show CropsGive t l w (.returned (.slice p (3 + N) c)) wo from ⟨p, 3 + N, c, L, q, rfl, HS.out.own, HS.out.nice, by omega, by omega, HS.out.tape, HS.out.but⟩)
      clear hS
      go_wp2
      go_ret
      exact HF.out

end Go.Proofs.YtcghhagnibabeaaGreatDoor
