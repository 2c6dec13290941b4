/-
  THE TAPE and what lies beside it: one_any, rows that stay where the tape is written.
-/
import Derived.Test.YtcghhagnibabeaaGreatDoorKp
import Derived.Test.YtcghhagnibabeaaGreatDoorGr
namespace Go.Proofs.YtcghhagnibabeaaGreatDoor
open Go.RowKit


theorem Recs.but {α : Type} {S : Shape α} {w w' : World} {t : Nat} {p : Option Addr} {L : List α} (h : Recs S w p L) (hb : But t w w') (hp : ∀ a, p = some a → a.block ≠ t) : Recs S w' p L := by
  refine ⟨h.1, ?_⟩
  rcases h.2 with e | ⟨b, off, e, hl, hc⟩
  · exact .inl e
  · exact .inr ⟨b, off, e, Nat.lt_of_lt_of_le hl hb.size, fun n u hu => (hb.cell (p := ⟨b, off + n, none⟩) hl (hp ⟨b, off, none⟩ e)).trans (hc n u hu)⟩

theorem But.stp {t : Nat} {a b c : World} (h : But t a b) (hb : Below a.heap.size b c) : But t a c :=
  ⟨hb.os.trans h.os, hb.tape.trans h.tape, hb.output.trans h.output, Nat.le_trans h.size hb.size, fun i hi hn => (hb.block i hi).trans (h.block i hi hn)⟩

theorem But.nxt {t : Nat} {a b c : World} (h : But t a b) (hb : Below b.heap.size b c) : But t a c := h.stp (hb.mono h.size)

theorem But.drew {t : Nat} {a b : World} (h : But t a b) : But t a b.drew := h.stp ((Below.refl _ _).drew)

theorem OwnR.but {α : Type} {S : Shape α} {w w' : World} {T : TypeId} {B t : Nat} {v : Value} {L : List α} (h : OwnR S w T B v L) (hb : But t w w') (hB : t < B) : OwnR S w' T B v L :=
  h.blocks fun g _ hg hl => hb.block g hl (by omega)

end Go.Proofs.YtcghhagnibabeaaGreatDoor
