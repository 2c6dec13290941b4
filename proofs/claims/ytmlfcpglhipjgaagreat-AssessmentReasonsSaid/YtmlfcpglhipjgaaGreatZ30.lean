/-
  PACKED (pack8.py): what is needed of the texts Lo.
-/
import Derived.Test.YtmlfcpglhipjgaaGreatZ0
import Derived.Test.YtmlfcpglhipjgaaGreatZ4
import Derived.Test.YtmlfcpglhipjgaaGreatZ7
import Derived.Test.YtmlfcpglhipjgaaGreatZ9
import Derived.Test.YtmlfcpglhipjgaaGreatZ13
import Derived.Test.YtmlfcpglhipjgaaGreatZ15
import Derived.Test.YtmlfcpglhipjgaaGreatZ17
import Derived.Test.YtmlfcpglhipjgaaGreatZ19
import Derived.Test.YtmlfcpglhipjgaaGreatZ26
import Derived.Test.YtmlfcpglhipjgaaGreatZ29
namespace Go.Proofs.YtmlfcpglhipjgaaGreat.Sc
end Go.Proofs.YtmlfcpglhipjgaaGreat.Sc
namespace Go.Proofs.YtmlfcpglhipjgaaGreat.As
end Go.Proofs.YtmlfcpglhipjgaaGreat.As
namespace Go.Proofs.YtmlfcpglhipjgaaGreat
open Go.RowKit Sc As
structure Opn (w W : World) (t : Nat) (l : List Int) (q g d : Nat) (r : RY) (Y : YLaw) : Prop where
 tape : TapeAt W t l q
 low : Below w.heap.size w W
 wt : w.heap.size ≤ t
 yv : YV (fun b => t < b) W d r Y
 vb : Blk W g (yCells r).toArray 29
 tg : t < g
 ok : YOk Y
 len : Y.sch.length ≤ 3
 due : Y.late.due < 40
 sm : ∀ s ∈ Y.sch, SmallS s
section
variable {w w1 w2 W W' : World} {t q q' g d : Nat} {l : List Int} {r : RY} {Y : YLaw}
theorem Opn.next (h : Opn w W t l q g d r Y) (ht : TapeAt W' t l q') (hb : But t W W') : Opn w W' t l q' g d r Y := by
 have hw := h.wt
 have hs := h.low.size
 have htg := h.tg
 exact ⟨ht, h.low.trans (hb.below hw (by omega)), hw, h.yv.change hb.size fun b k hl => ⟨hb.block b hl (by omega), k⟩, h.vb.but hb (by omega), h.tg, h.ok, h.len, h.due, h.sm⟩
theorem Opn.below (h : Opn w W t l q g d r Y) (hb : Below W.heap.size W W') : Opn w W' t l q g d r Y := h.next (h.tape.below hb) (.of_below hb)
theorem Opn.init {T : TypeId} {l : List Int} (hb : Below w.heap.size w w1) (ht : w.heap.size < w1.heap.size) (hy : YV (NewQ w1.heap.size) w2 d r Y) (ho : YOk Y) (hl : Y.sch.length ≤ 3) (hd : Y.late.due < 40) (hs : ∀ s ∈ Y.sch, SmallS s) (hp : TpB w1 w2 w.heap.size l q) (hT : T = 29) :
  Opn w (w2.alloc (.cells (yCells r).toArray T)) w.heap.size l q w2.heap.size d r Y := by
 subst hT
 have hA := (Below.refl w2.heap.size w2).alloc (Nat.le_refl _) (.cells (yCells r).toArray 29)
 have h2 := hp.but.size
 refine ⟨hp.tape.below hA, (hb.trans (hp.but.below (Nat.le_refl _) hb.size)).trans (hA.mono (by omega)), Nat.le_refl _, hy.change hA.size fun b k hl => ⟨hA.block b hl, by unfold NewQ at k; omega⟩, Blk.new _ _ _, by omega, ho, hl, hd, hs⟩
end
structure Fms (W : World) (t : Nat) (Y : YLaw) (p : Option Addr) (F : List FarmF) (most : Nat) : Prop where
 at_ : FsAt (fun b => t < b) W p F
 ok : FOk Y F
 fm : ∀ f ∈ F, FmOk Y f
 len : F.length ≤ most
theorem Fms.but {W W' : World} {t : Nat} {Y : YLaw} {p : Option Addr} {F : List FarmF} {most : Nat} (h : Fms W t Y p F most) (hb : But t W W') : Fms W' t Y p F most :=
 ⟨h.at_.change hb.size fun b k hl => ⟨hb.block b hl (by omega), k⟩, h.ok, h.fm, h.len⟩
theorem Fms.below {W W' : World} {t : Nat} {Y : YLaw} {p : Option Addr} {F : List FarmF} {most : Nat} (h : Fms W t Y p F most) (hb : Below W.heap.size W W') : Fms W' t Y p F most := h.but (.of_below hb)
theorem Opn.farms {w W : World} {t q g d : Nat} {l : List Int} {r : RY} {Y : YLaw} (h : Opn w W t l q g d r Y) (most : Nat) (hm : most ≤ 4) :
  Calls Tryz.prog 18 #[.pointer (some ⟨t, 0, none⟩), .agg (yCells r).toArray, .int .i64 (most : Int)] W fun e w' => ∃ (p : Option Addr) (F : List FarmF) (cap : Nat) (q' : Nat), e = .returned (.slice p F.length cap) ∧ F.length ≤ cap ∧ Opn w w' t l q' g d r Y ∧ Fms w' t Y p F most ∧ But t W w' :=
 (farms2_any d t l q most r Y W h.tape (fun b k => by omega) h.yv h.ok hm).mono fun e w' ⟨p, F, cap, fa, q', e1, h1, h2, h3, h4, h5⟩ =>
  ⟨p, F, cap, q', e1, h1, h.next h5.tape h5.but, ⟨h2.change (Nat.le_refl _) fun b k _ => ⟨rfl, by have := h.tape.lt; unfold NewQ at k; omega⟩, h3.fok h.ok (by omega), h3.fm, h4⟩, h5.but⟩
theorem Fms.falls {W : World} {t : Nat} {Y : YLaw} {p : Option Addr} {F : List FarmF} {most : Nat} (h : Fms W t Y p F most) (h0 : assErr Y F = 0) : Falls Y (assess Y F) := As.falls h.ok h0
theorem As.Falls.due {l : YLaw} {A : List Awd} (h : Falls l A) : Due A := ⟨by have := h.len; omega, fun a ha => by have := h.each a ha; omega⟩
end Go.Proofs.YtmlfcpglhipjgaaGreat
