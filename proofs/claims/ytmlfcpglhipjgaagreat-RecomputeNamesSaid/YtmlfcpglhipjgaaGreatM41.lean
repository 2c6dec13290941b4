/-
  PACKED (pack8.py): what is needed of the texts Xs, Xc.
-/
import Derived.Test.YtmlfcpglhipjgaaGreatM32
set_option maxRecDepth 100000
set_option maxHeartbeats 4000000
open Go.Value renaming int → I
open Go.IntKind renaming i64 → O
namespace Go.Proofs.YtmlfcpglhipjgaaGreat
open Go.RowKit Sc As
theorem Re.SCh_at {W : World} {p : Option Addr} {L : List Re.Chg} (h : Recs Re.SCh W p L) {k : Nat} (hk : k < L.length) : ∃ b off, p = some ⟨b, off, none⟩ ∧ b < W.heap.size ∧ W.cell? ⟨b, off + k * 2, none⟩ = some (I O L[k].kind) ∧ W.cell? ⟨b, off + k * 2 + 1, none⟩ = some (I O L[k].line) := by
 obtain ⟨b, off, e, hl, hc⟩ := h.at hk; exact ⟨b, off, e, hl, hc 0 _ rfl, hc 1 _ rfl⟩
theorem lists38_any (p q : Option Addr) (A : List Re.Chg) (c d : Nat) (w : World) (h : Recs Re.SCh w p A) (k : Recs Re.SCh w q A) : Calls Tryz.prog 40 #[.slice p A.length c, .slice q A.length d] w (BoolG true w) := by
 have H := mh h; have K := mh k; have hlen := h.len; clear h k
 go_enter Tryz.func40, Tryz.ntmps40
 go_wp2
 go_loopw [5] (fun i wr => ∃ k : Nat, k ≤ A.length ∧ i = I O k ∧ Below w.heap.size w wr) (fun i _ => A.length - (intOf i).toNat)
 case atStart => exact ⟨0, Nat.zero_le _, rfl, brf _ _⟩
 case round =>
  obtain ⟨wo, rfl⟩ : ∃ wo : World, wo = wr := ⟨_, rfl⟩; obtain ⟨k, hk, rfl, hb⟩ := hrel; have HB := mh hb; have hk0 : (0 : Int) ≤ (k : Int) := inn _
  by_cases hlt : k < A.length
  ·have hk1 : (k : Int) < (A.length : Int) := by omega
   obtain ⟨b, off, e, hbl, c0, c1⟩ := Re.SCh_at (H.out.below hb) hlt
   cases e
   obtain ⟨b', off', e, hbl', d0, d1⟩ := Re.SCh_at (K.out.below hb) hlt
   cases e
   obtain ⟨⟨a1, a2⟩, ea⟩ : ∃ a, A[k] = a := ⟨_, rfl⟩; rw [ea] at c0 c1 d0 d1; simp only at c0 c1 d0 d1; clear ea hb
   go_wp2
   go_quiet (fail)
   go_wp2
   go_roundw
   case rel => exact ⟨k + 1, by omega, by go_num, bnext HB.out HB.out.size (drewN_below _ _)⟩
   case measure => simp [intOf]; omega
  ·obtain rfl : k = A.length := by omega
   clear hb
   go_wp2
   go_ret
   exact ⟨rfl, HB.out⟩
theorem same38_any {Q Q2 : Nat → Prop} (p q : Option Addr) (A : List Re.Dif) (c d : Nat) (w : World) (h : Re.DsAt Q w p A) (k : Re.DsAt Q2 w q A) : Calls Tryz.prog 45 #[.slice p A.length c, .slice q A.length d] w (BoolG true w) := by
 have H := mh h; have K := mh k; have hlen := h.len; clear h k
 go_enter Tryz.func45, Tryz.ntmps45
 go_wp2
 go_loopw [5] (fun i wr => ∃ k : Nat, k ≤ A.length ∧ i = I O k ∧ Below w.heap.size w wr) (fun i _ => A.length - (intOf i).toNat)
 case atStart => exact ⟨0, Nat.zero_le _, rfl, brf _ _⟩
 case round =>
  obtain ⟨wo, rfl⟩ : ∃ wo : World, wo = wr := ⟨_, rfl⟩; obtain ⟨k, hk, rfl, hb⟩ := hrel; have HB := mh hb; have hk0 : (0 : Int) ≤ (k : Int) := inn _
  by_cases hlt : k < A.length
  ·have hk1 : (k : Int) < (A.length : Int) := by omega
   obtain ⟨b, off, ⟨xf, xb, xa, cp, cn, cc⟩, rfl, hbl, ⟨c0, c1, c2, c3⟩, hv⟩ := (H.out.below hb).at hlt; obtain ⟨b', off', ⟨yf, yb, ya, dp, dn, dc⟩, rfl, hbl', ⟨d0, d1, d2, d3⟩, hu⟩ := (K.out.below hb).at hlt; have e1 := hv.farm.trans hu.farm.symm; have e2 := hv.before.trans hu.before.symm; have e3 := hv.after.trans hu.after.symm; have e4 := hv.n; have e5 := hu.n; simp only at c0 c1 c2 c3 d0 d1 d2 d3 e1 e2 e3 e4 e5; subst e1 e2 e3 e4 e5; have LS := mh (lists38_any cp dp A[k].chg cc dc wo.drew (hv.chg.drew) (hu.chg.drew)); obtain ⟨m, em⟩ : ∃ m, A[k].chg.length = m := ⟨_, rfl⟩; rw [em] at LS c3 d3; clear hv hu em hb
   go_wp2_with fail
   try simp only [List.append_eq, List.cons_append, List.nil_append]
   refine wp_tail 48 (by kernel_rfl) (by kernel_rfl) ?_
   simp only [List.take_succ_cons, List.take_zero, List.drop_succ_cons, List.drop_zero]
   repeat still_step
   refine wpStill_nil ?_
   change wpList _ _ _ _ _ (World.drew _)
   go_wp2_with (go_at_call 40; (with_reducible refine cmo LS.out ?_); rintro e w1 ⟨rfl, hb1⟩; have HB1 := mh (HB.out.trans ((bdrew hb1).mono HB.out.size)); clear hb1)
   go_roundw
   case rel => exact ⟨k + 1, by omega, by go_num, HB1.out⟩
   case measure => simp [intOf]; omega
  ·obtain rfl : k = A.length := by omega
   clear hb
   go_wp2
   go_ret
   exact ⟨rfl, HB.out⟩
def Re.FcG (l : YLaw) (F : List FarmF) (w : World) (e : Ending) (w' : World) : Prop :=
 ∃ N D : Nat, e = .returned (.tuple #[I O (N : Int), I O (D : Int), I O (assErr l F)]) ∧ (assErr l F = 0 → N = (Re.fac l F).1 ∧ D = (Re.fac l F).2) ∧ Below w.heap.size w w'
theorem factor38_any {Q Q2 : Nat → Prop} (d : Nat) (r : RY) (l : YLaw) (p : Option Addr) (F : List FarmF) (cap : Nat) (w : World) (h : YV Q w d r l) (hF : FsAt Q2 w p F) :
  Calls Tryz.prog 46 #[.agg (yCells r).toArray, .slice p F.length cap] w (Re.FcG l F w) := by
 have SD := mh (fun (W : World) (hb : Below w.heap.size w W) => side_any d r l p F cap W (h.below hb) (hF.below hb)); obtain ⟨sp, sn, sc, tp, tn, tc, ldue, llast, lmille, gp, gn, gc, cp, ev, un, wd⟩ := r; simp only [yCells] at SD ⊢; have HB := mh ((brf w.heap.size w).alloc mle (.cells #[.slice sp sn sc, .slice tp tn tc, I O ldue, I O llast, I O lmille, .slice gp gn gc, I O cp, I O ev, I O un, I O wd] 29)); clear h hF
 go_enter Tryz.func46, Tryz.ntmps46
 go_wp2_with fail
 generalize w.alloc (.cells #[.slice sp sn sc, .slice tp tn tc, I O ldue, I O llast, I O lmille, .slice gp gn gc, I O cp, I O ev, I O un, I O wd] 29) = w0 at *; (with_reducible refine cmo (SD.out w0 HB.out) ?_); rintro e w1 (⟨hE, rfl, hb1⟩ | ⟨hE, q, c, rfl, hO, hb1⟩)
 ·have HB1 := mh ((HB.out.trans (hb1.mono HB.out.size)).alloc (by have := HB.out.size; have := hb1.size; omega) (.cells #[.slice none 0 0, .slice none 0 0, I O 0, I O 0, .bool false] 140))
  have HE := mh hE; clear hE hb1
  go_wp2_with fail
  go_region
  go_wp2
  go_ret3
  exact ⟨0, 0, rfl, fun h => absurd h HE.out, HB1.out.drew⟩
 ·have HB1 := mh ((HB.out.trans (hb1.mono HB.out.size)).alloc (by have := HB.out.size; have := hb1.size; omega) (.cells #[.slice p F.length cap, .slice q (assess l F).length c, I O ((Re.fac l F).1 : Int), I O ((Re.fac l F).2 : Int), .bool (Re.dvd l F)] 140))
  have HE := mh hE; clear hE hb1 hO
  go_wp2_with fail
  go_region
  go_wp2
  go_ret3
  exact ⟨(Re.fac l F).1, (Re.fac l F).2, by rw [HE.out]; rfl, fun _ => ⟨rfl, rfl⟩, HB1.out.drew⟩
end Go.Proofs.YtmlfcpglhipjgaaGreat
