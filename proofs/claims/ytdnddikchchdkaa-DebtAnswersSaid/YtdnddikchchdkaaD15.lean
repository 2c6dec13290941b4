/-
  THE WALKS over debt.Waive$1 and slices.IndexFunc at debts, with the predicate 'has the number'.
-/
import Derived.Test.YtdnddikchchdkaaD12
namespace Go.Proofs.Ytdnddikchchdkaa
open Go.RowKit

theorem isn_any (d : De.Dbt) (nb : Nat) (n : Int) (w : World) (hc : w.cell? ⟨nb, 0, none⟩ = some (.int .i64 n)) (hl : nb < w.heap.size) :
    Calls Try.prog 76 #[.agg #[.int .i64 d.num, .int .i64 d.dec, .int .i64 d.due, .int .i64 d.amt, .int .i64 d.left], .pointer (some ⟨nb, 0, none⟩)] w fun e w' => e = .returned (.bool (d.num == n)) ∧ Below w.heap.size w w' := by
  obtain ⟨num, dec, due, amt, left⟩ := d
  simp only
  go_enter Try.func76, Try.ntmps76
  go_wp2
  go_ret
  exact ⟨rfl, (Below.refl _ _).alloc (Nat.le_refl _) _⟩

/-- The first debt with a number. -/
def nFrom (L : List De.Dbt) (n i : Int) : Prop := (i = -1 ∧ ∀ j, j < L.length → (De.g L j).num ≠ n) ∨ ∃ k : Nat, i = k ∧ k < L.length ∧ (De.g L k).num = n

def IdxN (L : List De.Dbt) (n : Int) (w : World) (e : Ending) (w' : World) : Prop := ∃ i, e = .returned (.int .i64 i) ∧ nFrom L n i ∧ Below w.heap.size w w'

set_option maxRecDepth 100000 in
set_option maxHeartbeats 1000000 in
theorem idxn_any (p : Option Addr) (L : List De.Dbt) (cap nb : Nat) (n : Int) (w : World) (h : Debts w p L) (hc : w.cell? ⟨nb, 0, none⟩ = some (.int .i64 n)) (hl : nb < w.heap.size) :
    Calls Try.prog 75 #[.slice p L.length cap, .func (.func 76) #[] #[.pointer (some ⟨nb, 0, none⟩)]] w (IdxN L n w) := by
  have hn := h.len
  have H := Lib.hid h
  have HC := Lib.hid hc
  clear h hc
  go_enter Try.func75, Try.ntmps75
  go_wp2
  go_loopw [8] (fun i wr => ∃ k : Nat, k ≤ L.length ∧ i = .int .i64 k ∧ (∀ j, j < k → (De.g L j).num ≠ n) ∧ Below w.heap.size w wr) (fun i _ => L.length - (intOf i).toNat)
  case atStart => exact ⟨0, Nat.zero_le _, rfl, fun j hj => absurd hj (Nat.not_lt_zero j), Below.refl _ _⟩
  case round =>
    obtain ⟨k, hk, rfl, hall, hb⟩ := hrel
    have HA := Lib.hid hall
    have HB := Lib.hid hb
    have hsz := hb.size
    by_cases hlt : k < L.length
    · obtain ⟨b, off, d, rfl, hbl, hD, hd⟩ := SD_at H.out hlt
      obtain ⟨c0, c1, c2, c3, c4⟩ := hD.below hb hbl
      have hnc := (hb.cell (p := ⟨nb, 0, none⟩) hl).trans HC.out
      have hnl : nb < wr.heap.size := by omega
      have CE := Lib.hid (isn_any d nb n wr hnc hnl)
      have hk0 : (0 : Int) ≤ (k : Int) := Int.natCast_nonneg _
      have hk1 : (k : Int) < (L.length : Int) := by omega
      clear hall hb hD hnc
      cases hz : (d.num == n)
      · have HN := Lib.hid (show (De.g L k).num ≠ n by rw [hd.out]; exact beq_eq_false_iff_ne.1 hz)
        rw [hz] at CE
        go_wp2_with (first | (go_at_call 76; refine (CE.out).mono ?_; rintro e w1 ⟨rfl, hb1⟩))
        go_roundw
        case rel => exact ⟨k + 1, by omega, by go_num, fun j hj => by
          by_cases e : j = k
          · subst e; exact HN.out
          · exact HA.out j (by omega), bstep (Nat.le_refl _) HB.out hb1⟩
        case measure => simp [intOf]; omega
      · have HN := Lib.hid (show (De.g L k).num = n by rw [hd.out]; exact beq_iff_eq.1 hz)
        rw [hz] at CE
        go_wp2_with (first | (go_at_call 76; refine (CE.out).mono ?_; rintro e w1 ⟨rfl, hb1⟩))
        go_ret
        exact ⟨_, rfl, .inr ⟨k, rfl, hlt, HN.out⟩, bstep (Nat.le_refl _) HB.out hb1⟩
    · obtain rfl : k = L.length := by omega
      clear hall hb
      go_wp2
      go_ret
      exact ⟨_, rfl, .inl ⟨rfl, HA.out⟩, HB.out⟩

theorem w_none {farm : Int} {L : List De.Dbt} {next n amount : Int} (hR : De.Right farm L next) (h : ∀ j, j < L.length → (De.g L j).num ≠ n) : De.wErr farm L next n amount = 71 ∧ De.wList farm L next n amount = L := by
  have e : De.wErr farm L next n amount = 71 := by
    unfold De.wErr
    rw [if_neg (by rw [De.chk_ok hR]; simp), if_pos]
    rintro ⟨i, hi, e⟩
    exact h i hi e
  exact ⟨e, by unfold De.wList; rw [if_pos (by rw [e]; simp)]⟩

theorem w_bad {farm : Int} {L : List De.Dbt} {next n amount : Int} (h : De.chk farm L next = 22) : De.wErr farm L next n amount = 22 ∧ De.wList farm L next n amount = L := by
  have e : De.wErr farm L next n amount = 22 := by unfold De.wErr; rw [if_pos (by rw [h]; simp)]
  exact ⟨e, by unfold De.wList; rw [if_pos (by rw [e]; simp)]⟩

theorem w_found {farm : Int} {L : List De.Dbt} {next n amount : Int} (hR : De.Right farm L next) {k : Nat} (hk : k < L.length) (hn : (De.g L k).num = n) :
    (amount < 1 ∨ (De.g L k).left < amount → De.wErr farm L next n amount = 67 ∧ De.wList farm L next n amount = L) ∧
    (¬ (amount < 1 ∨ (De.g L k).left < amount) → De.wErr farm L next n amount = 0 ∧ De.wList farm L next n amount = De.nz (L.set k { De.g L k with left := (De.g L k).left - amount })) := by
  have hf : De.fnd L n = (De.g L k).left := by rw [← hn]; exact De.fnd_mem hR.asc (De.g_mem hk)
  have h1 : ¬ De.chk farm L next ≠ 0 := by rw [De.chk_ok hR]; simp
  have h2 : ¬ ¬ De.has L n := fun h => h ⟨k, hk, hn⟩
  constructor
  · intro h
    have e : De.wErr farm L next n amount = 67 := by unfold De.wErr; rw [if_neg h1, if_neg h2, hf, if_pos h]
    exact ⟨e, by unfold De.wList; rw [if_pos (by rw [e]; simp)]⟩
  · intro h
    have e : De.wErr farm L next n amount = 0 := by unfold De.wErr; rw [if_neg h1, if_neg h2, hf, if_neg h]
    exact ⟨e, by unfold De.wList; rw [if_neg (by rw [e]; simp), hf, De.set_upd hR.asc hk, hn]⟩

end Go.Proofs.Ytdnddikchchdkaa
