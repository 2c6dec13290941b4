/-
  THE TAPE and what lies beside it: one_any, rows that stay where the tape is written.
-/
import Derived.Test.YtndikbpmhlhgfaaDoorKp
import Derived.Test.YtndikbpmhlhgfaaDoorGr
namespace Go.Proofs.YtndikbpmhlhgfaaDoor
open Go.RowKit

set_option maxHeartbeats 400000 in
theorem one_any (t : Nat) (l : List Int) (k : Nat) (n : Int) (w : World) (h : TapeAt w t l k) (h1 : 1 ≤ n) (hn : n ≤ 9223372036854775807) :
    Calls Tryd.prog 9 #[.pointer (some ⟨t, 0, none⟩), .int .i64 n] w fun e w' => e = .returned (.bool (gives l k n == n - 1)) ∧ TapeAt w' t l (taken l k) ∧ But t w w' := by
  have hn1 := next_any t l k n w h hn
  obtain ⟨g1, g2⟩ := gives_bd l k h1
  have HN := Lib.hid hn1
  clear hn1 h
  generalize gives l k n = g at *
  go_enter Tryd.func9, Tryd.ntmps9
  go_wp2_with (first | (go_at_call 10; refine (HN.out).mono ?_; rintro e w1 ⟨rfl, ht, hb⟩))
  go_ret
  exact ⟨rfl, ht, hb⟩

theorem Recs.but {α : Type} {S : Shape α} {w w' : World} {t : Nat} {p : Option Addr} {L : List α} (h : Recs S w p L) (hb : But t w w') (hp : ∀ a, p = some a → a.block ≠ t) : Recs S w' p L := by
  refine ⟨h.1, ?_⟩
  rcases h.2 with e | ⟨b, off, e, hl, hc⟩
  · exact .inl e
  · exact .inr ⟨b, off, e, Nat.lt_of_lt_of_le hl hb.size, fun n u hu => (hb.cell (p := ⟨b, off + n, none⟩) hl (hp ⟨b, off, none⟩ e)).trans (hc n u hu)⟩

theorem But.stp {t : Nat} {a b c : World} (h : But t a b) (hb : Below a.heap.size b c) : But t a c :=
  ⟨hb.os.trans h.os, hb.tape.trans h.tape, hb.output.trans h.output, Nat.le_trans h.size hb.size, fun i hi hn => (hb.block i hi).trans (h.block i hi hn)⟩

theorem But.nxt {t : Nat} {a b c : World} (h : But t a b) (hb : Below b.heap.size b c) : But t a c := h.stp (hb.mono h.size)

theorem But.drew {t : Nat} {a b : World} (h : But t a b) : But t a b.drew := h.stp ((Below.refl _ _).drew)

theorem OwnR.but {α : Type} {S : Shape α} {w w' : World} {T : TypeId} {B t : Nat} {v : Value} {L : List α} (h : OwnR S w T B v L) (hb : But t w w') (hB : t < B) : OwnR S w' T B v L :=
  h.blocks fun g _ hg hl => hb.block g hl (by omega)

end Go.Proofs.YtndikbpmhlhgfaaDoor
