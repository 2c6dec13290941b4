/-
  SLICES OF DEBTS AND ACCOUNTS, as values and in memory.
-/
import Derived.Test.YtdnddikchchdkaaGr
import Derived.Test.YtdnddikchchdkaaPb
import Derived.Test.YtdnddikchchdkaaKp
import Derived.Test.YtdnddikchchdkaaBs
namespace Go.Proofs.Ytdnddikchchdkaa
open Go.RowKit

def dCells (d : De.Dbt) : List Value := [.int .i64 d.num, .int .i64 d.dec, .int .i64 d.due, .int .i64 d.amt, .int .i64 d.left]

def SD : Shape De.Dbt := ⟨5, dCells, fun _ => rfl, by decide, fun a u hu => by
  simp only [dCells, List.mem_cons, List.not_mem_nil, or_false] at hu
  rcases hu with rfl | rfl | rfl | rfl | rfl <;> rfl⟩

/-- A slice of debts. -/
abbrev Debts (w : World) (p : Option Addr) (L : List De.Dbt) : Prop := Recs SD w p L

/-- The five cells of debt k, which is d. -/
structure DAt (w : World) (b o : Nat) (d : De.Dbt) : Prop where
  c0 : w.cell? ⟨b, o, none⟩ = some (.int .i64 d.num)
  c1 : w.cell? ⟨b, o + 1, none⟩ = some (.int .i64 d.dec)
  c2 : w.cell? ⟨b, o + 2, none⟩ = some (.int .i64 d.due)
  c3 : w.cell? ⟨b, o + 3, none⟩ = some (.int .i64 d.amt)
  c4 : w.cell? ⟨b, o + 4, none⟩ = some (.int .i64 d.left)

theorem DAt.below {w w' : World} {b o : Nat} {d : De.Dbt} {B : Nat} (h : DAt w b o d) (hb : Below B w w') (hB : b < B) : DAt w' b o d :=
  ⟨(hb.cell (p := ⟨b, o, none⟩) hB).trans h.c0, (hb.cell (p := ⟨b, o + 1, none⟩) hB).trans h.c1, (hb.cell (p := ⟨b, o + 2, none⟩) hB).trans h.c2, (hb.cell (p := ⟨b, o + 3, none⟩) hB).trans h.c3, (hb.cell (p := ⟨b, o + 4, none⟩) hB).trans h.c4⟩

theorem DAt.drew {w : World} {b o : Nat} {d : De.Dbt} (h : DAt w b o d) : DAt w.drew b o d := ⟨h.c0, h.c1, h.c2, h.c3, h.c4⟩

theorem DAt.of {w : World} {b o : Nat} {d : De.Dbt} (h : ∀ i u, (dCells d)[i]? = some u → w.cell? ⟨b, o + i, none⟩ = some u) : DAt w b o d :=
  ⟨h 0 _ rfl, h 1 _ rfl, h 2 _ rfl, h 3 _ rfl, h 4 _ rfl⟩

theorem SD_at {w : World} {p : Option Addr} {L : List De.Dbt} (h : Debts w p L) {k : Nat} (hk : k < L.length) :
    ∃ b off d, p = some ⟨b, off, none⟩ ∧ b < w.heap.size ∧ DAt w b (off + k * 5) d ∧ Hid (De.g L k = d) := by
  obtain ⟨b, off, hp, hb, hc⟩ := h.at hk
  exact ⟨b, off, _, hp, hb, DAt.of (d := De.g L k) (by rw [De.g_eq hk]; exact hc), rfl⟩

/-- The value of an account. -/
def accV (farm : Int) (p : Option Addr) (n c : Nat) (next : Int) : Value := .agg #[.int .i64 farm, .slice p n c, .int .i64 next]

theorem info_dbt : (Try.prog.info? 49).map (fun i => (i.zero, i.size, i.bytes)) = some (some (.agg #[.int .i64 0, .int .i64 0, .int .i64 0, .int .i64 0, .int .i64 0]), 5, 40) := by kernel_rfl

theorem el_dbt : Elem SD Try.prog 49 40 40 := by
  obtain ⟨i0, h1, h2, h3, h4⟩ := info_parts info_dbt
  exact ⟨⟨i0, _, h1, h2, h3, h4, rfl⟩, Try.underlying40⟩

end Go.Proofs.Ytdnddikchchdkaa
