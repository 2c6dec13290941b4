/-
  THE WALKS over slices.IndexFunc and slices.DeleteFunc at debts, with the predicate 'nothing is left'.
-/
import Derived.Test.YtdnddikchchdkaaD8
namespace Go.Proofs.Ytdnddikchchdkaa
open Go.RowKit

/-- The first debt of which nothing is left. -/
def zFrom (L : List De.Dbt) (i : Int) : Prop := (i = -1 ∧ ∀ j, j < L.length → (De.g L j).left ≠ 0) ∨ ∃ k : Nat, i = k ∧ k < L.length ∧ (De.g L k).left = 0 ∧ ∀ j, j < k → (De.g L j).left ≠ 0

def IdxZ (L : List De.Dbt) (w : World) (e : Ending) (w' : World) : Prop := ∃ i, e = .returned (.int .i64 i) ∧ zFrom L i ∧ Below w.heap.size w w'

set_option maxRecDepth 100000 in
set_option maxHeartbeats 1000000 in
theorem idxz_any (p : Option Addr) (L : List De.Dbt) (cap : Nat) (w : World) (h : Debts w p L) :
    Calls Try.prog 75 #[.slice p L.length cap, .func (.func 67) #[] #[]] w (IdxZ L w) := by
  have hn := h.len
  have H := Lib.hid h
  clear h
  go_enter Try.func75, Try.ntmps75
  go_wp2
  go_loopw [8] (fun i wr => ∃ k : Nat, k ≤ L.length ∧ i = .int .i64 k ∧ (∀ j, j < k → (De.g L j).left ≠ 0) ∧ Below w.heap.size w wr) (fun i _ => L.length - (intOf i).toNat)
  case atStart => exact ⟨0, Nat.zero_le _, rfl, fun j hj => absurd hj (Nat.not_lt_zero j), Below.refl _ _⟩
  case round =>
    obtain ⟨k, hk, rfl, hall, hb⟩ := hrel
    have HA := Lib.hid hall
    have HB := Lib.hid hb
    have hsz := hb.size
    by_cases hlt : k < L.length
    · obtain ⟨b, off, d, rfl, hbl, hD, hd⟩ := SD_at H.out hlt
      obtain ⟨c0, c1, c2, c3, c4⟩ := hD.below hb hbl
      have hk0 : (0 : Int) ≤ (k : Int) := Int.natCast_nonneg _
      have hk1 : (k : Int) < (L.length : Int) := by omega
      clear hall hb hD
      cases hz : (d.left == 0)
      · have HN := Lib.hid (show (De.g L k).left ≠ 0 by rw [hd.out]; exact beq_eq_false_iff_ne.1 hz)
        go_wp2_with (first | (go_at_call 67; refine (paid_any d _).mono ?_; rintro e w1 ⟨rfl, hb1⟩))
        go_roundw
        case rel => exact ⟨k + 1, by omega, by go_num, fun j hj => by
          by_cases e : j = k
          · subst e; exact HN.out
          · exact HA.out j (by omega), bstep (Nat.le_refl _) HB.out hb1⟩
        case measure => simp [intOf]; omega
      · have HN := Lib.hid (show (De.g L k).left = 0 by rw [hd.out]; exact beq_iff_eq.1 hz)
        go_wp2_with (first | (go_at_call 67; refine (paid_any d _).mono ?_; rintro e w1 ⟨rfl, hb1⟩))
        go_ret
        exact ⟨_, rfl, .inr ⟨k, rfl, hlt, HN.out, HA.out⟩, bstep (Nat.le_refl _) HB.out hb1⟩
    · obtain rfl : k = L.length := by omega
      clear hall hb
      go_wp2
      go_ret
      exact ⟨_, rfl, .inl ⟨rfl, HA.out⟩, HB.out⟩

/-- Debt k of a row of the call's own: its cells, which may be written, all five. -/
theorem SD_put {w : World} {T : TypeId} {B c n : Nat} {p : Option Addr} {L : List De.Dbt} (h : OwnR SD w T B (.slice p n c) L) {k : Nat} (hk : k < L.length) :
    ∃ g, p = some ⟨g, 0, none⟩ ∧ n = L.length ∧ B ≤ g ∧ g < w.heap.size ∧ DAt w g (k * 5) (De.g L k) ∧ (∀ i, w.frozen? ⟨g, i, none⟩ = false) ∧
      ∀ d : De.Dbt, OwnR SD (((((w.setCell ⟨g, k * 5, none⟩ (.int .i64 d.num)).setCell ⟨g, k * 5 + 1, none⟩ (.int .i64 d.dec)).setCell ⟨g, k * 5 + 2, none⟩ (.int .i64 d.due)).setCell ⟨g, k * 5 + 3, none⟩ (.int .i64 d.amt)).setCell ⟨g, k * 5 + 4, none⟩ (.int .i64 d.left)) T B (.slice p n c) (L.set k d) := by
  obtain ⟨g, e1, e2, e3, e4, e5, e6, -⟩ := h.at hk
  have e5' : ∀ i u, (dCells (De.g L k))[i]? = some u → w.cell? ⟨g, k * 5 + i, none⟩ = some u := by rw [De.g_eq hk]; exact e5
  refine ⟨g, e1, e2, e3, e4, DAt.of e5', e6, fun d => ?_⟩
  subst e1
  have st : ∀ {W : World} {M : List De.Dbt} (hO : OwnR SD W T B (.slice (some ⟨g, 0, none⟩) n c) M) (hM : k < M.length) (i : Nat) (u : Value) (a : De.Dbt), i < 5 → dCells a = (dCells M[k]).set i u → OwnR SD (W.setCell ⟨g, k * 5 + i, none⟩ u) T B (.slice (some ⟨g, 0, none⟩) n c) (M.set k a) := fun hO hM i u a hi ha => by
    obtain ⟨g', e, -, -, -, -, -, hs⟩ := hO.at hM
    cases e
    exact hs i u a hi ha
  have s0 := st h hk 0 (.int .i64 d.num) ⟨d.num, L[k].dec, L[k].due, L[k].amt, L[k].left⟩ (by omega) rfl
  have s1 := st s0 (by simpa using hk) 1 (.int .i64 d.dec) ⟨d.num, d.dec, L[k].due, L[k].amt, L[k].left⟩ (by omega) (by simp [dCells])
  have s2 := st s1 (by simpa using hk) 2 (.int .i64 d.due) ⟨d.num, d.dec, d.due, L[k].amt, L[k].left⟩ (by omega) (by simp [dCells])
  have s3 := st s2 (by simpa using hk) 3 (.int .i64 d.amt) ⟨d.num, d.dec, d.due, d.amt, L[k].left⟩ (by omega) (by simp [dCells])
  have s4 := st s3 (by simpa using hk) 4 (.int .i64 d.left) d (by omega) (by simp [dCells])
  simp only [List.set_set] at s4
  exact s4

theorem zero_dbt (w : World) : (zeroValue 49).run Try.prog w = .ok (.agg #[.int .i64 0, .int .i64 0, .int .i64 0, .int .i64 0, .int .i64 0]) w := by kernel_rfl

/-- What DeleteFunc has done behind j elements: the first i are what is left of these, the others are as they were. -/
structure Del (L M : List De.Dbt) (i j : Nat) : Prop where
  len : M.length = L.length
  low : M.take i = De.nz (L.take j)
  high : ∀ t, j ≤ t → De.g M t = De.g L t
  lt : i < j
  jl : j ≤ L.length

theorem nz_take_succ {L : List De.Dbt} {j : Nat} (hj : j < L.length) : De.nz (L.take (j + 1)) = De.nz (L.take j) ++ if (De.g L j).left ≠ 0 then [De.g L j] else [] := by
  rw [De.take_g hj]
  unfold De.nz
  rw [List.filter_append]
  congr 1
  by_cases h : (De.g L j).left ≠ 0
  · rw [if_pos h, List.filter_cons, if_pos (by simpa using h)]; rfl
  · rw [if_neg h, List.filter_cons, if_neg (by simpa using h)]; rfl

theorem Del.keep {L M : List De.Dbt} {i j : Nat} (h : Del L M i j) (hj : j < L.length) (hz : (De.g L j).left ≠ 0) : Del L (M.set i (De.g L j)) (i + 1) (j + 1) := by
  have hl := h.len
  have hlt := h.lt
  refine ⟨by simpa using hl, ?_, fun t ht => ?_, by omega, by omega⟩
  · rw [nz_take_succ hj, if_pos hz, ← h.low, List.take_succ_eq_append_getElem (by simp; omega), List.take_set_of_le (Nat.le_refl _)]
    simp
  · rw [De.g_set (by omega), if_neg (by omega)]; exact h.high t (by omega)

theorem Del.skip {L M : List De.Dbt} {i j : Nat} (h : Del L M i j) (hj : j < L.length) (hz : (De.g L j).left = 0) : Del L M i (j + 1) := by
  refine ⟨h.len, ?_, fun t ht => h.high t (by omega), by have := h.lt; omega, by omega⟩
  rw [nz_take_succ hj, if_neg (by simpa using hz), List.append_nil]
  exact h.low

theorem Del.start {L : List De.Dbt} {k : Nat} (hk : k < L.length) (hz : (De.g L k).left = 0) (hall : ∀ j, j < k → (De.g L j).left ≠ 0) : Del L L k (k + 1) := by
  refine ⟨rfl, ?_, fun _ _ => rfl, by omega, by omega⟩
  rw [nz_take_succ hk, if_neg (by simpa using hz), List.append_nil]
  unfold De.nz
  rw [List.filter_eq_self.2]
  intro d hd
  obtain ⟨i, hi, rfl⟩ := List.getElem_of_mem hd
  rw [List.length_take] at hi
  rw [List.getElem_take, ← De.g_eq (by omega)]
  simpa using hall i (by omega)

theorem nz_all {L : List De.Dbt} (h : ∀ j, j < L.length → (De.g L j).left ≠ 0) : De.nz L = L := by
  unfold De.nz
  rw [List.filter_eq_self]
  intro d hd
  obtain ⟨i, hi, rfl⟩ := De.mem_g hd
  simpa using h i hi

def DelGive (w : World) (T : TypeId) (B : Nat) (L : List De.Dbt) (e : Ending) (w' : World) : Prop :=
  ∃ p c n, e = .returned (.slice p n c) ∧ n = (De.nz L).length ∧ OwnR SD w' T B (.slice p n c) (De.nz L) ∧ Below B w w' 

end Go.Proofs.Ytdnddikchchdkaa
