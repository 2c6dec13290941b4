/-
  THE WALK over law39.DebtParts.
-/
import Derived.Test.YtdnddikchchdkaaD27
import Derived.Test.YtdnddikchchdkaaD18
namespace Go.Proofs.Ytdnddikchchdkaa
open Go.RowKit

theorem parts_plain {farm next : Int} {L L1 L2 L3 : List De.Dbt} {d n m p q r : Int} (hR : De.Right farm L next) (n0 : 0 ≤ n) (m0 : 0 ≤ m) (h1 : De.Off d L n L1 p) (h2 : De.Off d L1 m L2 q) (h3 : De.Off d L (n + m) L3 r) :
    L3 = L2 ∧ r = p + q ∧ 0 ≤ p ∧ p ≤ n ∧ 0 ≤ q ∧ q ≤ m := by
  have k := h1.parts hR.fine n0 m0 h2
  obtain ⟨e1, e2⟩ := h3.uniq hR.fine k
  have b1 := h1.keeps hR.fine n0
  have b2 := h2.keeps b1.2.2.2.2.1 m0
  exact ⟨e1, e2, b1.1, b1.2.1, b2.1, b2.2.1⟩

theorem De.Under.nil {L' : List De.Dbt} (h : De.Under L' []) : L' = [] := by
  cases L' with
  | nil => rfl
  | cons a l => obtain ⟨y, hy, -⟩ := h.from_ a List.mem_cons_self; cases hy

theorem Recs.aparts {α : Type} {S : Shape α} {w : World} {p : Option Addr} {L : List α} (h : Recs S w p L) {b : Nat} (hb : w.heap.size ≤ b) : L = [] ∨ ∀ a, p = some a → a.block ≠ b := by
  rcases h.apart with e | h
  · exact .inl e
  · exact .inr fun a e => by have := h a e; omega

theorem AccAt.other {w : World} {b bx : Nat} {farm next : Int} {p : Option Addr} {c : Nat} {L : List De.Dbt} (h : AccAt w bx farm next p c L) (hb : b ≠ bx) (hp : L = [] ∨ ∀ a, p = some a → a.block ≠ b) (x y z : Value) : AccAt (((w.setCell ⟨b, 0, none⟩ x).setCell ⟨b, 1, none⟩ y).setCell ⟨b, 2, none⟩ z) bx farm next p c L :=
  ⟨((h.box.other hb x).other hb y).other hb z, ((h.recs.set' b 0 x hp).set' b 1 y hp).set' b 2 z hp, h.nil⟩

set_option maxRecDepth 100000 in
set_option maxHeartbeats 16000000 in
theorem debtParts_walk (a : Option Addr) (len cap : Nat) (z : List Int) (x x' y : Int) (w : World) (w0 : IsRow .i64 w a len cap z) (w1 : (Lit.int .u16 x).wf = true) (w1' : (Lit.int .u16 x').wf = true) (w2 : (Lit.int .u8 y).wf = true) :
    Calls Try.prog 5 #[.slice a len cap, .int .u16 x, .int .u16 x', .int .u8 y] w fun e w' => e = .returned (.bool true) ∧ Below w.heap.size w w' := by
  obtain ⟨x0, x1⟩ := bd_u16 w1
  obtain ⟨z0, z1⟩ := bd_u16 w1'
  obtain ⟨y0, y1⟩ := bd_u8 w2
  have HN := Lib.hid (new_any a len cap z w w0)
  clear w0 w1 w1' w2
  generalize (z.take len).take 400 = l at *
  obtain ⟨hmx, n0, n1⟩ := tmod_u x0 (n := 900) (by omega)
  obtain ⟨hmz, m0, m1⟩ := tmod_u z0 (n := 900) (by omega)
  obtain ⟨hmy, d0, d1⟩ := tmod_u y0 (n := 25) (by omega)
  generalize x % 900 = n at *
  generalize x' % 900 = m at *
  generalize y % 25 = d at *
  have AC := Lib.hid (fun (W : World) (h : TapeAt W w.heap.size l 0) => account39_any w.heap.size l 0 W h)
  have AO := Lib.hid (fun (farm next : Int) (p : Option Addr) (L : List De.Dbt) (c : Nat) (W : World) (am : Int) => offset39_any farm next p L c d am W)
  have AS := Lib.hid (fun (farm next : Int) (p p' : Option Addr) (L : List De.Dbt) (c c' : Nat) (W : World) => same39_any farm next p p' L c c' W)
  unfold accV at AO AS
  go_enter Try.func5, Try.ntmps5
  go_wp2_with (first | (go_at_call 10; refine (HN.out).mono ?_; rintro e w1 ⟨rfl, ht, hb1⟩) | (go_at_call 27; refine Calls.mono (AC.out _ ht) ?_; rintro e w2 ⟨farm, p, L, ca, next, q, rfl, hR, hD, hnil, hnew, ht2, hbt⟩; unfold accV; have H3 := Lib.hid (AccAt.new (farm := farm) (next := next) hD hnil 42); have hl40 := hR.len; have B3 := Lib.hid (balloc (Nat.le_refl _) (hb1.trans (hbt.below (Nat.le_refl _) hb1.size)) (Obj.cells #[.int .i64 farm, .slice p L.length ca, .int .i64 next] 42)); have O1 := Lib.hid (AO.out farm next p L ca _ n H3.out.recs hnil (by omega))) | (go_at_call 28; (with_reducible refine Calls.mono O1.out ?_); clear O1; rintro e w4 ⟨p1, c1, L1, r1, rfl, ho1, hl1⟩; unfold accV; have f1 := off_fine hR (show 0 ≤ d ∧ d ≤ 36864 by omega) (show 0 ≤ n ∧ n ≤ 68719476736 by omega); rw [f1, if_pos rfl] at ho1; rw [f1]; have hR1 := hR.off ho1 n0; have A4 := Lib.hid ((H3.out.below hl1.below).below ((Below.refl _ _).alloc (Nat.le_refl _) (Obj.cells #[.int .i64 farm, .slice p1 L1.length c1, .int .i64 next] 42))); have E4 := Lib.hid (AccAt.new (farm := farm) (next := next) hl1.recs hl1.nil 42); have B4 := Lib.hid (balloc (Nat.le_refl _) (bstep (Nat.le_refl _) B3.out hl1.below) (Obj.cells #[.int .i64 farm, .slice p1 L1.length c1, .int .i64 next] 42)); have hl41 := hR1.len; have O2 := Lib.hid (AO.out farm next p1 L1 c1 _ m E4.out.recs hl1.nil (by omega)); obtain ⟨a0, a1, a2, -, -, -, -⟩ := A4.out.box; obtain ⟨b0, b1, b2, -, -, -, -⟩ := E4.out.box) | (go_at_call 28; (with_reducible refine Calls.mono O2.out ?_); clear O2; rintro e w5 ⟨p2, c2, L2, r2, rfl, ho2, hl2⟩; unfold accV; have f2 := off_fine hR1 (show 0 ≤ d ∧ d ≤ 36864 by omega) (show 0 ≤ m ∧ m ≤ 68719476736 by omega); rw [f2, if_pos rfl] at ho2; rw [f2]; have hls1 := hl1.below.size; have hls2 := hl2.below.size; simp only [World.size_alloc] at hls1 hls2; have hap1 := hD.aparts (b := w4.heap.size) (by omega); have hap2 : L2 = [] ∨ ∀ x, p1 = some x → x.block ≠ w4.heap.size := (by rcases hl1.recs.aparts (Nat.le_refl _) with e | h; (· subst e; exact .inl (ho2.keeps hR1.fine m0).2.2.2.2.2.nil); (· exact .inr h)); have X5 := E4.out.box.below hl2.below E4.out.box.lt; have E5 := Lib.hid (AccAt.to (farm := farm) (next := next) X5 hl2.recs hl2.nil (hl2.apart (by simp) hap2)); have A5 := Lib.hid ((A4.out.below hl2.below).other (b := w4.heap.size) (by omega) hap1 (.int .i64 farm) (.slice p2 L2.length c2) (.int .i64 next)); have B5 := Lib.hid (bsetTo (bstep (Nat.le_refl _) B4.out hl2.below) w4.heap.size (by have := B3.out.size; simp only [World.size_alloc] at this; omega) (.int .i64 farm) (.slice p2 L2.length c2) (.int .i64 next)); obtain ⟨d0', d1', d2', -, -, -, -⟩ := A5.out.box; obtain ⟨h0, h1, h2, h3, h4, h5, -⟩ := X5; have O3 := Lib.hid (AO.out farm next p L ca _ (n + m) A5.out.recs hnil (by omega))) | (go_at_call 28; (with_reducible refine Calls.mono O3.out ?_); clear O3; rintro e w6 ⟨p3, c3, L3, r3, rfl, ho3, hl3⟩; unfold accV; have f3 := off_fine hR (show 0 ≤ d ∧ d ≤ 36864 by omega) (show 0 ≤ n + m ∧ n + m ≤ 68719476736 by omega); rw [f3, if_pos rfl] at ho3; rw [f3]; obtain ⟨rfl, rfl, i0, i1, i2, i3⟩ := parts_plain hR n0 m0 ho1 ho2 ho3; have E6 := Lib.hid ((E5.out.below hl3.below).below ((Below.refl _ _).alloc (Nat.le_refl _) (Obj.cells #[.int .i64 farm, .slice p3 L3.length c3, .int .i64 next] 42))); have G6 := Lib.hid (AccAt.new (farm := farm) (next := next) hl3.recs hl3.nil 42); have B6 := Lib.hid (balloc (Nat.le_refl _) (bstep (Nat.le_refl _) B5.out hl3.below) (Obj.cells #[.int .i64 farm, .slice p3 L3.length c3, .int .i64 next] 42)); obtain ⟨m0', m1', m2', -, -, -, -⟩ := E6.out.box; obtain ⟨s0, s1, s2, -, -, -, -⟩ := G6.out.box; have hw := IntWalk.i64_in (r1 + r2) ⟨by omega, by omega⟩; have SM := Lib.hid (AS.out farm next p2 p3 L3 c2 c3 _ E6.out.recs G6.out.recs)) | (go_at_call 33; (with_reducible refine Calls.mono SM.out ?_); rintro e w7 ⟨rfl, hb7⟩) | (go_at_call 32; refine (awake39_any _).mono ?_; rintro e w8 ⟨rfl, hb8⟩))
  go_ret
  have le := Nat.le_refl w.heap.size
  exact ⟨rfl, bstep le (bstep le B6.out hb7) hb8⟩

end Go.Proofs.Ytdnddikchchdkaa
